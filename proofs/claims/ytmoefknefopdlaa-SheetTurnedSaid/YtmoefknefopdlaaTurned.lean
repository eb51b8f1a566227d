import Derived.Test.YtmoefknefopdlaaLw
set_option linter.unusedVariables false
set_option linter.unusedSimpArgs false
/-! SheetTurned: always true. -/
namespace Go.Proofs.Ytmoefknefopdlaa.Turned
open Go.RowKit Go.Proofs.YtmoefknefopdlaaW.PrintWords Go.Proofs.YtmoefknefopdlaaW.PrintLast Go.Proofs.YtmoefknefopdlaaW.PrintMore Go.Proofs.Ytmoefknefopdlaa.PAll Go.Proofs.Ytmoefknefopdlaa.Pl1 Go.Proofs.Ytmoefknefopdlaa.Pl2 Go.Proofs.Ytmoefknefopdlaa.St Go.Proofs.Ytmoefknefopdlaa.Sp Go.Proofs.Ytmoefknefopdlaa.Bd Go.Proofs.Ytmoefknefopdlaa.Lt Go.Proofs.Ytmoefknefopdlaa.Rdr Go.Proofs.Ytmoefknefopdlaa.Parse Go.Proofs.Ytmoefknefopdlaa.Lw
attribute [local go_sem] max2_int min2_int max_two min_two max_three min_three max_four min_four
theorem xor_u8 {a x : Int} (h : 0 ≤ a ∧ a < 256) (k : 0 ≤ x ∧ x < 256) : 0 ≤ Go.bits .xor .u8 a x ∧ Go.bits .xor .u8 a x < 256 ∧ (x ≠ 0 → Go.bits .xor .u8 a x ≠ a) := by
  obtain ⟨m, rfl⟩ := Int.eq_ofNat_of_zero_le h.1
  obtain ⟨n, rfl⟩ := Int.eq_ofNat_of_zero_le k.1
  have hm : m < 2 ^ 8 := by omega
  have hn : n < 2 ^ 8 := by omega
  have e : Go.bits .xor .u8 (m : Int) (n : Int) = ((m ^^^ n : Nat) : Int) := by
    have ha' : m % 2 ^ IntKind.u8.bits = m := Nat.mod_eq_of_lt hm
    have hb' : n % 2 ^ IntKind.u8.bits = n := Nat.mod_eq_of_lt hn
    simp only [bits, BitVec.ofInt_natCast, BitVec.toNat_xor, BitVec.toNat_ofNat, ha', hb']
    have h2 : m ^^^ n < 2 ^ 8 := Nat.xor_lt_two_pow hm hn
    rw [IntKind.wrap_u8]
    omega
  have h2 : m ^^^ n < 2 ^ 8 := Nat.xor_lt_two_pow hm hn
  rw [e]
  refine ⟨by omega, by omega, fun hx he => hx ?_⟩
  have h3 : m ^^^ n = m := by omega
  have h4 : m ^^^ (m ^^^ n) = m ^^^ m := by rw [h3]
  rw [← Nat.xor_assoc, Nat.xor_self, Nat.zero_xor] at h4
  omega
theorem own_C {w : World} {base g n c : Nat} {xs : List Int} (h : w.ownsRow base 5 1 (.slice (some ⟨g, 0, none⟩) n c) n (nums .u8 xs)) : Kd.C (Kd.int .u8) w (some ⟨g, 0, none⟩) n xs := by
  obtain ⟨A, c', e, hR⟩ := own_reads h
  cases e
  exact Kd.C_of_reads (d := (0 : Int)) (h1 := fun _ => rfl) hR
def sameB (p q : Int) (d : List Int) (p' q' : Int) (d' : List Int) : Bool := decide (p = p') && (decide (q = q') && ((strOfNums d).toList == (strOfNums d').toList))
theorem same_is (p q : Int) (d : List Int) (p' q' : Int) (d' : List Int) : potsherdref3_SameSheet.f p q d p' q' d' = some (sameB p q d p' q' d') := by
  unfold potsherdref3_SameSheet.f sameB
  by_cases h1 : p = p'
  · by_cases h2 : q = q'
    · simp [h1, h2]
    · simp [h1, h2]
  · simp [h1]
theorem any_turned {p q : Int} {d : List Int} {x : Int} (h : mayB p q d = true) (hd : Bytes d) (hx : 0 ≤ x ∧ x < 256) (h0 : x ≠ 0) {k : Nat} (hk : k < (laidL p q d).length) :
    ∃ p2 q2 d2 e2, sheet_Parse.f ((laidL p q d).set k (Go.bits .xor .u8 (rd (laidL p q d) ((k : Nat) : Int)) x)) = some (p2, q2, d2, e2) ∧ (e2 = 5 ∨ e2 = 0 ∧ sameB p q d p2 q2 d2 = false) := by
  have hl := (mayB_iff.1 h).2.2.2.2
  have hb := laid_bytes (p := p) (q := q) hd (by omega)
  have hm : rd (laidL p q d) ((k : Nat) : Int) = (laidL p q d)[k] := by
    rw [rd_nat, List.getD_eq_getElem?_getD, List.getElem?_eq_getElem hk]; rfl
  obtain ⟨y1, y2, y3⟩ := xor_u8 (hb _ (List.getElem_mem hk)) hx
  rw [hm]
  obtain ⟨y, hy⟩ : ∃ y, Go.bits .xor .u8 (laidL p q d)[k] x = y := ⟨_, rfl⟩
  rw [hy] at y1 y2 y3 ⊢
  have hb2 : Bytes ((laidL p q d).set k y) := fun z hz => by
    rcases List.mem_or_eq_of_mem_set hz with hz | rfl
    · exact hb z hz
    · exact ⟨y1, y2⟩
  rcases parse_inv hb2 with e | ⟨p2, q2, d2, e, hm2, he⟩
  · exact ⟨0, 0, [], 5, parse_some hb2 (by rw [List.length_set]; omega) e, .inl rfl⟩
  · refine ⟨p2, q2, d2, 0, parse_some hb2 (by rw [List.length_set]; omega) e, .inr ⟨rfl, ?_⟩⟩
    cases hs : sameB p q d p2 q2 d2 with
    | false => rfl
    | true =>
      exfalso
      unfold sameB at hs
      simp only [Bool.and_eq_true, decide_eq_true_eq, beq_iff_eq] at hs
      obtain ⟨rfl, rfl, hs⟩ := hs
      have hd2 : Bytes d2 := fun z hz => by
        rw [he] at hb2
        exact hb2 z (by unfold laidL; simp [hz])
      have := str_inj hd hd2 hs
      subst this
      have h5 := congrArg (fun l => l[k]?) he
      simp only [List.getElem?_set_self hk, List.getElem?_eq_getElem hk, Option.some.injEq] at h5
      exact y3 h0 h5
theorem last_bad {p q : Int} {d : List Int} {x : Int} (h : mayB p q d = true) (hd : Bytes d) (hx : 0 ≤ x ∧ x < 256) (h0 : x ≠ 0) :
    sheet_Parse.f ((laidL p q d).set ((laidL p q d).length - 1) (Go.bits .xor .u8 (rd (laidL p q d) (((laidL p q d).length - 1 : Nat) : Int)) x)) = some (0, 0, [], 5) := by
  have hl := (mayB_iff.1 h).2.2.2.2
  have e1 : (laidL p q d).length - 1 = (code (clamp p) ++ code (clamp q) ++ code d.length ++ d).length := by
    show ((code (clamp p) ++ code (clamp q) ++ code d.length ++ d) ++ [90]).length - 1 = _
    rw [List.length_append]; rfl
  have e2 : rd (laidL p q d) (((laidL p q d).length - 1 : Nat) : Int) = 90 := by
    rw [rd_nat, e1]
    unfold laidL
    simp [List.getD_eq_getElem?_getD]
  obtain ⟨y1, y2, y3⟩ := xor_u8 (a := 90) (by omega) hx
  rw [e2, e1]
  have e3 : (laidL p q d).set (code (clamp p) ++ code (clamp q) ++ code d.length ++ d).length (Go.bits .xor .u8 90 x) = code (clamp p) ++ code (clamp q) ++ code d.length ++ d ++ [Go.bits .xor .u8 90 x] := by
    unfold laidL
    rw [List.set_append_right _ _ (Nat.le_refl _), Nat.sub_self]
    rfl
  have hb := laid_bytes (p := p) (q := q) hd (by omega)
  have hb2 : Bytes (code (clamp p) ++ code (clamp q) ++ code d.length ++ d) := fun z hz => hb z (by unfold laidL; exact List.mem_append_left _ hz)
  rw [e3]
  refine parse_some (hb2.append (fun z hz => by rw [List.mem_singleton] at hz; rw [hz]; exact ⟨y1, y2⟩)) ?_ (parse_end h (fun he => y3 h0 (List.singleton_inj.1 he)))
  have := hl.2
  rw [List.length_append, ← e1]
  simp
  omega
set_option maxHeartbeats 4000000 in
set_option maxRecDepth 100000 in
theorem walk (W : World) (p q : Int) (A : Option Addr) (c : Nat) (d : List Int) (at_ x : Int) (hz : d.length ≤ c) (hC : Kd.C (Kd.int .u8) W A d.length d) (hb : Bytes d) (hm : 0 ≤ x ∧ x < 256) (h3 : d.length ≤ 3000) (hmay : mayB p q d = true) (hx0 : x ≠ 0) :
    Calls Try.prog 6 #[.agg #[.int .i64 p, .int .i64 q, .slice A d.length c], .int .i64 at_, .int .u8 x] W fun e w' => e = .returned (.bool true) ∧ Below W.heap.size W w' := by
  have HZ := Aside0.mk hz
  have HC := Aside0.mk hC
  clear hz hC
  have H3 := Aside0.mk h3
  obtain ⟨kk, hk1, hk2, hk3⟩ : ∃ k, sheet_May.f k p q d = some true ∧ potsherdref3_MaySheet.f k p q d = some true ∧ sheet_Bytes.f k p q d = some (laidL p q d, 0) := by
    obtain ⟨k1, e1⟩ := may_ev p q d
    obtain ⟨k2, e2⟩ := refMay_ev p q d
    obtain ⟨k3, e3⟩ := bytes_ev p q d
    unfold bytesL at e3
    rw [hmay] at e1 e2
    rw [if_pos hmay] at e3
    exact ⟨k1 + k2 + k3, e1 _ (by omega), e2 _ (by omega), e3 _ (by omega)⟩
  have HK1 := Aside0.mk hk1
  have HK2 := Aside0.mk hk2
  have HK3 := Aside0.mk hk3
  have HMay := Aside0.mk hmay
  have HBy := Aside0.mk hb
  have HM := Aside0.mk hm
  have HX0 := Aside0.mk hx0
  have hx1 : (x == 0) = false := by simpa using hx0
  clear hk1 hk2 hk3 hmay h3 hb hm hx0
  go_enter Try.func6, Try.ntmps6
  go_wp2_with fail
  obtain ⟨sb, hsb⟩ : ∃ sb, W.heap.size = sb := ⟨_, rfl⟩
  obtain ⟨w1, hw1⟩ : ∃ w1, W.alloc (.cells #[.int .i64 p, .int .i64 q, .slice A d.length c] 24) = w1 := ⟨_, rfl⟩
  have hs1 : sb + 1 = w1.heap.size := by rw [← hw1, ← hsb]; simp
  have HI1 : Aside0 (Inv W sb p q (.slice A d.length c) w1) := ⟨⟨by rw [← hw1]; exact below_alloc (Below.refl _ _) _, by rw [← hw1, ← hsb]; simpa using heap_alloc_new W _⟩⟩
  rw [hsb, hw1, hs1]
  clear hsb hw1 hs1
  refine (potsherdlaw5_light.calls 3 (some ⟨w1.heap.size, 0, none⟩) 1 [⟨p, q, d⟩] true _ (one_C HZ.out (HI1.out.C HC.out)) (Nat.le_refl _) (by rw [light1, decide_eq_true H3.out])).mono ?_
  rintro ev w2 ⟨rfl, hb⟩
  have HI2 := Aside0.mk ((HI1.out.step (below_alloc (Below.refl _ _) _)).step hb)
  clear hb HI1
  obtain ⟨q0, q1, q2, q3, q4, q5⟩ := three HI2.out.2
  go_wp2_with fail
  refine (potsherdref3_MaySheet.calls kk p q A c d true _ (HI2.out.C HC.out) HZ.out HK2.out).mono ?_
  rintro ev w4 ⟨rfl, hb⟩
  have HI3 := Aside0.mk (HI2.out.step hb)
  clear hb HI2 q0 q1 q2 q3 q4 q5
  obtain ⟨q0, q1, q2, q3, q4, q5⟩ := three HI3.out.2
  go_wp2_with fail
  refine (sheet_Bytes.calls kk p q A c d (laidL p q d) 0 _ (HI3.out.C HC.out) HZ.out HK3.out).mono ?_
  rintro ev w5 ⟨v, rfl, hR, hb⟩
  obtain ⟨B, cb, rfl, hzb, hCb⟩ := Kd.R_reads hR
  have HZB := Aside0.mk hzb
  have HCB := Aside0.mk hCb
  have HI5 := Aside0.mk (HI3.out.step hb)
  clear hR hzb hCb hb HI3 q0 q1 q2 q3 q4 q5
  obtain ⟨q0, q1, q2, q3, q4, q5⟩ := three HI5.out.2
  obtain ⟨L, hL⟩ : ∃ L, laidL p q d = L := ⟨_, rfl⟩
  have HL := Aside0.mk hL
  have HLn := Aside0.mk (show 0 < L.length ∧ L.length ≤ 2000 by
    rw [← hL]
    refine ⟨?_, (mayB_iff.1 HMay.out).2.2.2.2.2⟩
    unfold laidL; simp; omega)
  rw [hL] at HZB HCB ⊢
  clear hL
  have hL0 : ((L.length : Int) == 0) = false := by have := HLn.out.1; rw [beq_eq_false_iff_ne]; omega
  have hz1 : ¬ ((L.length : Int) = 0) := by have := HLn.out.1; omega
  have hidx : wrap64 ((L.length : Int) - 1) = ((L.length - 1 : Nat) : Int) := by have := HLn.out; unfold wrap64; omega
  go_wp2_with (first | ((with_reducible refine gate_builtin (b := .append) (xs := #[.tmp 41, .tmp 42]) rfl ?_); at_builtin; refine Kd.R_append_rows (Kd.int .u8) (w0 := w5) w5.heap.size rfl (.tmp 41) (.tmp 42) 22 5 (.int .u8 0) 1 rfl Try.underlying22 info5 rfl (by decide) (by omega) (.slice (some ⟨w5.heap.size, 0, none⟩) 0 0) [] L B L.length cb (fun _ => True) (fun _ => False) rfl rfl (empty_R w5) (Kd.C_alloc HCB.out _) (fun _ _ h => h) (fun _ h => h.elim) (fun _ _ => trivial) (below_alloc (Below.refl _ _) _) ?aS ?aL ?_; (case aS => simp); (case aL => have := HLn.out.2; simp; omega); intro v1 w6 ho hb hg hat; obtain ⟨g, cap, e1, hgb, hgl⟩ := (Kd.own_of_R (show Kd.R (Kd.int .u8) 5 w6 w5.heap.size (fun _ => True) v1 L from ho)).form HLn.out.1; subst e1; have hown := Kd.own_of_R (show Kd.R (Kd.int .u8) 5 w6 w5.heap.size (fun _ => True) (.slice (some ⟨g, 0, none⟩) L.length cap) L from ho); have HO6 := Aside0.mk hown; have HB6 := Aside0.mk hb; have HGB := Aside0.mk hgb; have HGL := Aside0.mk hgl; obtain ⟨k0, k1⟩ := own_at hown ((L.length - 1 : Nat) : Int) (by omega) (by have := HLn.out.1; omega); rw [Int.toNat_natCast] at k0 k1; clear ho hb hg hat hgb hgl hown))
  have hst := own_store HO6.out ((L.length - 1 : Nat) : Int) (Go.bits .xor .u8 (rd L ((L.length - 1 : Nat) : Int)) x)
  rw [Int.toNat_natCast] at hst
  obtain ⟨w7, hw7⟩ : ∃ w7, w6.setCell ⟨g, L.length - 1, none⟩ (.int .u8 (Go.bits .xor .u8 (rd L ((L.length - 1 : Nat) : Int)) x)) = w7 := ⟨_, rfl⟩
  rw [hw7] at hst ⊢
  have hb7 : Below w5.heap.size w5 w7 := by rw [← hw7]; exact HB6.out.setCell HGB.out _
  obtain ⟨L1, hL1⟩ : ∃ L1, L.set (L.length - 1) (Go.bits .xor .u8 (rd L ((L.length - 1 : Nat) : Int)) x) = L1 := ⟨_, rfl⟩
  have hl1 : L1.length = L.length := by rw [← hL1, List.length_set]
  have HP1 := Aside0.mk (show sheet_Parse.f L1 = some (0, 0, [], 5) by rw [← hL1, ← HL.out]; exact last_bad HMay.out HBy.out HM.out HX0.out)
  rw [hL1] at hst
  have hc1 : Kd.C (Kd.int .u8) w7 (some ⟨g, 0, none⟩) L1.length L1 := by rw [hl1]; exact own_C hst.1
  have hcall := sheet_Parse.calls (some ⟨g, 0, none⟩) cap L1 0 0 [] 5 w7 hc1 (by rw [hl1]; exact own_le hst.1) HP1.out
  rw [hl1] at hcall
  have HI7 := Aside0.mk (HI5.out.step hb7)
  have HCB7 := Aside0.mk (Kd.C_below HCB.out hb7)
  clear hst hw7 hb7 hL1 hl1 hc1 k0 k1 HO6 HB6 HGB HGL HI5 HCB HP1 q0 q1 q2 q3 q4 q5
  refine hcall.mono ?_
  clear hcall
  rintro ev w8 ⟨v, rfl, hR, hb⟩
  obtain ⟨A8, c8, rfl, -, -⟩ := Kd.R_reads hR
  have hb8 := below_step hb (below_alloc (Below.refl _ _) (.cells #[.int .i64 0, .int .i64 0, .slice A8 0 c8] 24))
  have HI8 := Aside0.mk (HI7.out.step hb8)
  have HCB8 := Aside0.mk (Kd.C_below HCB7.out hb8)
  clear hR hb hb8 HI7 HCB7
  go_upto_region 9 with fail
  obtain ⟨w9, hw9⟩ : ∃ w9, w8.alloc (.cells #[.int .i64 0, .int .i64 0, .slice A8 0 c8] 24) = w9 := ⟨_, rfl⟩
  rw [hw9] at HI8 HCB8 ⊢
  clear hw9
  obtain ⟨k, hk1, hk2, hk3, hk4⟩ := cut_at at_ L.length HLn.out.1 (by have := HLn.out.2; omega)
  have HK := Aside0.mk hk2
  have hki : ((k : Nat) : Int) < (L.length : Int) := by omega
  clear hk2
  go_wp2_with (first | ((with_reducible refine gate_builtin (b := .append) (xs := #[.tmp 58, .tmp 59]) rfl ?_); at_builtin; refine Kd.R_append_rows (Kd.int .u8) (w0 := w9) w9.heap.size rfl (.tmp 58) (.tmp 59) 22 5 (.int .u8 0) 1 rfl Try.underlying22 info5 rfl (by decide) (by omega) (.slice (some ⟨w9.heap.size, 0, none⟩) 0 0) [] L B L.length cb (fun _ => True) (fun _ => False) rfl rfl (empty_R w9) (Kd.C_alloc HCB8.out _) (fun _ _ h => h) (fun _ h => h.elim) (fun _ _ => trivial) (below_alloc (Below.refl _ _) _) ?aS ?aL ?_; (case aS => simp); (case aL => have := HLn.out.2; simp; omega); intro v1 w10 ho hb hg hat; obtain ⟨g2, cap2, e1, hgb, hgl⟩ := (Kd.own_of_R (show Kd.R (Kd.int .u8) 5 w10 w9.heap.size (fun _ => True) v1 L from ho)).form HLn.out.1; subst e1; have hown := Kd.own_of_R (show Kd.R (Kd.int .u8) 5 w10 w9.heap.size (fun _ => True) (.slice (some ⟨g2, 0, none⟩) L.length cap2) L from ho); have HO10 := Aside0.mk hown; have HB10 := Aside0.mk hb; have HGB := Aside0.mk hgb; have HGL := Aside0.mk hgl; obtain ⟨k0, k1⟩ := own_at hown ((k : Nat) : Int) (by omega) (by have := HK.out; omega); rw [Int.toNat_natCast] at k0 k1; clear ho hb hg hat hgb hgl hown))
  have hst := own_store HO10.out ((k : Nat) : Int) (Go.bits .xor .u8 (rd L ((k : Nat) : Int)) x)
  rw [Int.toNat_natCast] at hst
  obtain ⟨w11, hw11⟩ : ∃ w11, w10.setCell ⟨g2, k, none⟩ (.int .u8 (Go.bits .xor .u8 (rd L ((k : Nat) : Int)) x)) = w11 := ⟨_, rfl⟩
  rw [hw11] at hst ⊢
  have hb11 : Below w9.heap.size w9 w11 := by rw [← hw11]; exact HB10.out.setCell HGB.out _
  obtain ⟨p2, q2, d2, e2, hpp, hee⟩ : ∃ p2 q2 d2 e2, sheet_Parse.f (L.set k (Go.bits .xor .u8 (rd L ((k : Nat) : Int)) x)) = some (p2, q2, d2, e2) ∧ (e2 = 5 ∨ e2 = 0 ∧ sameB p q d p2 q2 d2 = false) := by
    have hk := HK.out
    rw [← HL.out] at hk ⊢
    exact any_turned HMay.out HBy.out HM.out HX0.out hk
  have HEE := Aside0.mk hee
  obtain ⟨L2, hL2⟩ : ∃ L2, L.set k (Go.bits .xor .u8 (rd L ((k : Nat) : Int)) x) = L2 := ⟨_, rfl⟩
  have hl2 : L2.length = L.length := by rw [← hL2, List.length_set]
  rw [hL2] at hst hpp
  have hc2 : Kd.C (Kd.int .u8) w11 (some ⟨g2, 0, none⟩) L2.length L2 := by rw [hl2]; exact own_C hst.1
  have hcall := sheet_Parse.calls (some ⟨g2, 0, none⟩) cap2 L2 p2 q2 d2 e2 w11 hc2 (by rw [hl2]; exact own_le hst.1) hpp
  rw [hl2] at hcall
  have HI11 := Aside0.mk (HI8.out.step hb11)
  clear hst hw11 hb11 hL2 hl2 hc2 k0 k1 HO10 HB10 HGB HGL HI8 HCB8 hpp hee hk1 hk3 hk4 hki
  refine hcall.mono ?_
  clear hcall
  rintro ev w12 ⟨v, rfl, hR, hb⟩
  obtain ⟨A12, c12, rfl, hz12, hC12⟩ := Kd.R_reads hR
  have HZ12 := Aside0.mk hz12
  obtain ⟨tb, w13, htb, hw13, hb13, hxt⟩ : ∃ tb w13, w12.heap.size = tb ∧ w12.alloc (.cells #[.int .i64 p2, .int .i64 q2, .slice A12 d2.length c12] 24) = w13 ∧ Below w12.heap.size w12 w13 ∧ w13.heap[tb]? = some (.cells #[.int .i64 p2, .int .i64 q2, .slice A12 d2.length c12] 24 (0, 0)) := ⟨_, _, rfl, rfl, below_alloc (Below.refl _ _) _, by simpa using heap_alloc_new w12 _⟩
  have HI13 := Aside0.mk (HI11.out.step (below_step hb hb13))
  have HC13 := Aside0.mk (Kd.C_below hC12 hb13)
  obtain ⟨p0, p1, p2_, p3, p4, p5⟩ := three hxt
  obtain ⟨q0, q1, q2_, q3, q4, q5⟩ := three HI13.out.2
  clear hR hb hb13 hxt hz12 hC12 HI11
  go_upto_region 12 with fail
  clear hw13 htb
  rcases HEE.out with rfl | ⟨rfl, hs⟩
  · clear HEE
    go_wp2_with fail
    refine (Aw.awake _).mono ?_
    rintro ev w14 ⟨rfl, hb⟩
    have HB14 := Aside0.mk (below_step HI13.out.1 hb)
    clear hb
    go_wp2_with fail
    go_ret
    exact ⟨rfl, HB14.out⟩
  · have HSM := Aside0.mk (show potsherdref3_SameSheet.f p q d p2 q2 d2 = some false by rw [same_is, hs])
    clear HEE hs
    go_wp2_with fail
    refine (potsherdref3_SameSheet.calls p q A c d p2 q2 A12 c12 d2 false _ (HI13.out.C HC.out) HZ.out HC13.out HZ12.out HSM.out).mono ?_
    rintro ev w14 ⟨rfl, hb⟩
    have HB14 := Aside0.mk (below_step HI13.out.1 hb)
    clear hb
    go_wp2_with fail
    refine (Aw.awake _).mono ?_
    rintro ev w15 ⟨rfl, hb⟩
    have HB15 := Aside0.mk (below_step HB14.out hb)
    clear hb
    go_wp2_with fail
    go_ret
    exact ⟨rfl, HB15.out⟩
set_option maxHeartbeats 4000000 in
set_option maxRecDepth 100000 in
/-- Too heavy a sheet. -/
theorem heavy (W : World) (p q : Int) (A : Option Addr) (c : Nat) (d : List Int) (keep more : Int) (hz : d.length ≤ c) (hC : Kd.C (Kd.int .u8) W A d.length d) (h3 : ¬ d.length ≤ 3000) :
    Calls Try.prog 6 #[.agg #[.int .i64 p, .int .i64 q, .slice A d.length c], .int .i64 keep, .int .u8 more] W fun e w' => e = .returned (.bool true) ∧ Below W.heap.size W w' := by
  have HZ := Aside0.mk hz
  have HC := Aside0.mk hC
  have H3 := Aside0.mk h3
  clear hz hC h3
  go_enter Try.func6, Try.ntmps6
  go_wp2_with fail
  obtain ⟨sb, hsb⟩ : ∃ sb, W.heap.size = sb := ⟨_, rfl⟩
  obtain ⟨w1, hw1⟩ : ∃ w1, W.alloc (.cells #[.int .i64 p, .int .i64 q, .slice A d.length c] 24) = w1 := ⟨_, rfl⟩
  have hs1 : sb + 1 = w1.heap.size := by rw [← hw1, ← hsb]; simp
  have HI1 : Aside0 (Inv W sb p q (.slice A d.length c) w1) := ⟨⟨by rw [← hw1]; exact below_alloc (Below.refl _ _) _, by rw [← hw1, ← hsb]; simpa using heap_alloc_new W _⟩⟩
  rw [hsb, hw1, hs1]
  clear hsb hw1 hs1
  refine (potsherdlaw5_light.calls 3 (some ⟨w1.heap.size, 0, none⟩) 1 [⟨p, q, d⟩] false _ (one_C HZ.out (HI1.out.C HC.out)) (Nat.le_refl _) (by rw [light1, decide_eq_false H3.out])).mono ?_
  rintro ev w2 ⟨rfl, hb⟩
  have HI2 := Aside0.mk ((HI1.out.step (below_alloc (Below.refl _ _) _)).step hb)
  clear hb HI1
  go_wp2_with fail
  refine (Aw.awake _).mono ?_
  rintro ev w3 ⟨rfl, hb⟩
  have HB3 := Aside0.mk (below_step HI2.out.1 hb)
  clear hb
  go_wp2_with fail
  go_ret
  exact ⟨rfl, HB3.out⟩
set_option maxHeartbeats 4000000 in
set_option maxRecDepth 100000 in
/-- A sheet that may not be. -/
theorem not_may (W : World) (p q : Int) (A : Option Addr) (c : Nat) (d : List Int) (keep more : Int) (hz : d.length ≤ c) (hC : Kd.C (Kd.int .u8) W A d.length d) (h3 : d.length ≤ 3000) (hmay : mayB p q d = false) :
    Calls Try.prog 6 #[.agg #[.int .i64 p, .int .i64 q, .slice A d.length c], .int .i64 keep, .int .u8 more] W fun e w' => e = .returned (.bool true) ∧ Below W.heap.size W w' := by
  have HZ := Aside0.mk hz
  have HC := Aside0.mk hC
  have H3 := Aside0.mk h3
  obtain ⟨kk, hk1⟩ := (refMay_ev p q d).rounds
  rw [hmay] at hk1
  have HK1 := Aside0.mk hk1
  clear hz hC h3 hk1 hmay
  go_enter Try.func6, Try.ntmps6
  go_wp2_with fail
  obtain ⟨sb, hsb⟩ : ∃ sb, W.heap.size = sb := ⟨_, rfl⟩
  obtain ⟨w1, hw1⟩ : ∃ w1, W.alloc (.cells #[.int .i64 p, .int .i64 q, .slice A d.length c] 24) = w1 := ⟨_, rfl⟩
  have hs1 : sb + 1 = w1.heap.size := by rw [← hw1, ← hsb]; simp
  have HI1 : Aside0 (Inv W sb p q (.slice A d.length c) w1) := ⟨⟨by rw [← hw1]; exact below_alloc (Below.refl _ _) _, by rw [← hw1, ← hsb]; simpa using heap_alloc_new W _⟩⟩
  rw [hsb, hw1, hs1]
  clear hsb hw1 hs1
  refine (potsherdlaw5_light.calls 3 (some ⟨w1.heap.size, 0, none⟩) 1 [⟨p, q, d⟩] true _ (one_C HZ.out (HI1.out.C HC.out)) (Nat.le_refl _) (by rw [light1, decide_eq_true H3.out])).mono ?_
  rintro ev w2 ⟨rfl, hb⟩
  have HI2 := Aside0.mk ((HI1.out.step (below_alloc (Below.refl _ _) _)).step hb)
  clear hb HI1
  obtain ⟨q0, q1, q2, q3, q4, q5⟩ := three HI2.out.2
  go_wp2_with fail
  refine (potsherdref3_MaySheet.calls kk p q A c d false _ (HI2.out.C HC.out) HZ.out HK1.out).mono ?_
  rintro ev w3 ⟨rfl, hb⟩
  have HB3 := Aside0.mk (below_step HI2.out.1 hb)
  clear hb HI2 q0 q1 q2 q3 q4 q5
  go_wp2_with fail
  refine (Aw.awake _).mono ?_
  rintro ev w4 ⟨rfl, hb⟩
  have HB4 := Aside0.mk (below_step HB3.out hb)
  clear hb
  go_wp2_with fail
  go_ret
  exact ⟨rfl, HB4.out⟩
set_option maxHeartbeats 4000000 in
set_option maxRecDepth 100000 in
/-- Nothing is turned. -/
theorem zero_x (W : World) (p q : Int) (A : Option Addr) (c : Nat) (d : List Int) (keep more : Int) (hz : d.length ≤ c) (hC : Kd.C (Kd.int .u8) W A d.length d) (h3 : d.length ≤ 3000) (hmay : mayB p q d = true) (hx : more = 0) :
    Calls Try.prog 6 #[.agg #[.int .i64 p, .int .i64 q, .slice A d.length c], .int .i64 keep, .int .u8 more] W fun e w' => e = .returned (.bool true) ∧ Below W.heap.size W w' := by
  subst hx
  have HZ := Aside0.mk hz
  have HC := Aside0.mk hC
  have H3 := Aside0.mk h3
  obtain ⟨kk, hk1⟩ := (refMay_ev p q d).rounds
  rw [hmay] at hk1
  have HK1 := Aside0.mk hk1
  clear hz hC h3 hk1 hmay
  go_enter Try.func6, Try.ntmps6
  go_wp2_with fail
  obtain ⟨sb, hsb⟩ : ∃ sb, W.heap.size = sb := ⟨_, rfl⟩
  obtain ⟨w1, hw1⟩ : ∃ w1, W.alloc (.cells #[.int .i64 p, .int .i64 q, .slice A d.length c] 24) = w1 := ⟨_, rfl⟩
  have hs1 : sb + 1 = w1.heap.size := by rw [← hw1, ← hsb]; simp
  have HI1 : Aside0 (Inv W sb p q (.slice A d.length c) w1) := ⟨⟨by rw [← hw1]; exact below_alloc (Below.refl _ _) _, by rw [← hw1, ← hsb]; simpa using heap_alloc_new W _⟩⟩
  rw [hsb, hw1, hs1]
  clear hsb hw1 hs1
  refine (potsherdlaw5_light.calls 3 (some ⟨w1.heap.size, 0, none⟩) 1 [⟨p, q, d⟩] true _ (one_C HZ.out (HI1.out.C HC.out)) (Nat.le_refl _) (by rw [light1, decide_eq_true H3.out])).mono ?_
  rintro ev w2 ⟨rfl, hb⟩
  have HI2 := Aside0.mk ((HI1.out.step (below_alloc (Below.refl _ _) _)).step hb)
  clear hb HI1
  obtain ⟨q0, q1, q2, q3, q4, q5⟩ := three HI2.out.2
  go_wp2_with fail
  refine (potsherdref3_MaySheet.calls kk p q A c d true _ (HI2.out.C HC.out) HZ.out HK1.out).mono ?_
  rintro ev w3 ⟨rfl, hb⟩
  have HB3 := Aside0.mk (below_step HI2.out.1 hb)
  clear hb HI2 q0 q1 q2 q3 q4 q5
  go_wp2_with fail
  refine (Aw.awake _).mono ?_
  rintro ev w4 ⟨rfl, hb⟩
  have HB4 := Aside0.mk (below_step HB3.out hb)
  clear hb
  go_wp2_with fail
  go_ret
  exact ⟨rfl, HB4.out⟩
theorem final (W : World) (cs : Array Value) (x : S24) (hK : k24.K W x cs.toList) (hok : Ok24 x) (a1 : Int) (w1 : (Lit.int .i64 a1).wf = true) (a2 : Int) (w2 : (Lit.int .u8 a2).wf = true) :
    Calls Try.prog 6 #[.agg cs, .int .i64 a1, .int .u8 a2] W fun e w' => e = .returned (.bool true) ∧ Below W.heap.size W w' := by
  obtain ⟨A, c, rfl, hz, hC⟩ := agg_of hK
  have hm : Bytes [a2] := bytes_of (fun y hy => by rw [List.mem_singleton] at hy; rw [hy]; exact w2)
  by_cases h3 : x.f2.length ≤ 3000
  · cases hmay : mayB x.f0 x.f1 x.f2 with
    | false => exact not_may W x.f0 x.f1 A c x.f2 a1 a2 hz hC h3 hmay
    | true =>
      by_cases h0 : a2 = 0
      · exact zero_x W x.f0 x.f1 A c x.f2 a1 a2 hz hC h3 hmay h0
      · exact walk W x.f0 x.f1 A c x.f2 a1 a2 hz hC (bytes_of hok.2.2.2) (hm a2 (by simp)) h3 hmay h0
  · exact heavy W x.f0 x.f1 A c x.f2 a1 a2 hz hC h3
end Go.Proofs.Ytmoefknefopdlaa.Turned
