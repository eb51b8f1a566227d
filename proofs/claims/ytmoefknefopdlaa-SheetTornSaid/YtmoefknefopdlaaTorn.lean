import Derived.Test.YtmoefknefopdlaaLw
set_option linter.unusedVariables false
set_option linter.unusedSimpArgs false
/-! SheetTorn: always true. -/
namespace Go.Proofs.Ytmoefknefopdlaa.Torn
open Go.RowKit Go.Proofs.YtmoefknefopdlaaW.PrintWords Go.Proofs.YtmoefknefopdlaaW.PrintLast Go.Proofs.YtmoefknefopdlaaW.PrintMore Go.Proofs.Ytmoefknefopdlaa.PAll Go.Proofs.Ytmoefknefopdlaa.Pl1 Go.Proofs.Ytmoefknefopdlaa.Pl2 Go.Proofs.Ytmoefknefopdlaa.St Go.Proofs.Ytmoefknefopdlaa.Sp Go.Proofs.Ytmoefknefopdlaa.Bd Go.Proofs.Ytmoefknefopdlaa.Lt Go.Proofs.Ytmoefknefopdlaa.Rdr Go.Proofs.Ytmoefknefopdlaa.Parse Go.Proofs.Ytmoefknefopdlaa.Lw
attribute [local go_sem] max2_int min2_int max_two min_two max_three min_three max_four min_four
set_option maxHeartbeats 4000000 in
set_option maxRecDepth 100000 in
theorem walk (W : World) (p q : Int) (A : Option Addr) (c : Nat) (d : List Int) (keep more : Int) (hz : d.length ≤ c) (hC : Kd.C (Kd.int .u8) W A d.length d) (hb : Bytes d) (hm : 0 ≤ more ∧ more < 256) (h3 : d.length ≤ 3000) (hmay : mayB p q d = true) :
    Calls Try.prog 3 #[.agg #[.int .i64 p, .int .i64 q, .slice A d.length c], .int .i64 keep, .int .u8 more] W fun e w' => e = .returned (.bool true) ∧ Below W.heap.size W w' := by
  have HZ := Aside0.mk hz
  have HC := Aside0.mk hC
  clear hz hC
  have H3 := Aside0.mk h3
  obtain ⟨kk, hk1, hk2, hk3⟩ : ∃ k, sheet_May.f k p q d = some true ∧ potsherdref3_MaySheet.f k p q d = some true ∧ sheet_Bytes.f k p q d = some (laidL p q d, 0) := by
    obtain ⟨k1, e1⟩ := may_ev p q d
    obtain ⟨k2, e2⟩ := refMay_ev p q d
    obtain ⟨k3, e3⟩ := bytes_ev p q d
    unfold bytesL at e3
    rw [hmay] at e1 e2
    rw [if_pos hmay] at e3
    exact ⟨k1 + k2 + k3, e1 _ (by omega), e2 _ (by omega), e3 _ (by omega)⟩
  have HK1 := Aside0.mk hk1
  have HK2 := Aside0.mk hk2
  have HK3 := Aside0.mk hk3
  have HMay := Aside0.mk hmay
  have HBy := Aside0.mk hb
  have HM := Aside0.mk hm
  clear hk1 hk2 hk3 hmay h3 hb hm
  go_enter Try.func3, Try.ntmps3
  go_wp2_with fail
  obtain ⟨sb, hsb⟩ : ∃ sb, W.heap.size = sb := ⟨_, rfl⟩
  obtain ⟨w1, hw1⟩ : ∃ w1, W.alloc (.cells #[.int .i64 p, .int .i64 q, .slice A d.length c] 24) = w1 := ⟨_, rfl⟩
  have hs1 : sb + 1 = w1.heap.size := by rw [← hw1, ← hsb]; simp
  have HI1 : Aside0 (Inv W sb p q (.slice A d.length c) w1) := ⟨⟨by rw [← hw1]; exact below_alloc (Below.refl _ _) _, by rw [← hw1, ← hsb]; simpa using heap_alloc_new W _⟩⟩
  rw [hsb, hw1, hs1]
  clear hsb hw1 hs1
  refine (potsherdlaw5_light.calls 3 (some ⟨w1.heap.size, 0, none⟩) 1 [⟨p, q, d⟩] true _ (one_C HZ.out (HI1.out.C HC.out)) (Nat.le_refl _) (by rw [light1, decide_eq_true H3.out])).mono ?_
  rintro ev w2 ⟨rfl, hb⟩
  have HI2 := Aside0.mk ((HI1.out.step (below_alloc (Below.refl _ _) _)).step hb)
  clear hb HI1
  obtain ⟨q0, q1, q2, q3, q4, q5⟩ := three HI2.out.2
  go_wp2_with fail
  refine (sheet_May.calls kk p q A c d true _ (HI2.out.C HC.out) HZ.out HK1.out).mono ?_
  rintro ev w3 ⟨rfl, hb⟩
  have HI3 := Aside0.mk (HI2.out.step hb)
  clear hb HI2 q0 q1 q2 q3 q4 q5
  obtain ⟨q0, q1, q2, q3, q4, q5⟩ := three HI3.out.2
  go_wp2_with fail
  refine (potsherdref3_MaySheet.calls kk p q A c d true _ (HI3.out.C HC.out) HZ.out HK2.out).mono ?_
  rintro ev w4 ⟨rfl, hb⟩
  have HI4 := Aside0.mk (HI3.out.step hb)
  clear hb HI3 q0 q1 q2 q3 q4 q5
  obtain ⟨q0, q1, q2, q3, q4, q5⟩ := three HI4.out.2
  go_wp2_with fail
  refine (sheet_Bytes.calls kk p q A c d (laidL p q d) 0 _ (HI4.out.C HC.out) HZ.out HK3.out).mono ?_
  rintro ev w5 ⟨v, rfl, hR, hb⟩
  obtain ⟨B, cb, rfl, hzb, hCb⟩ := Kd.R_reads hR
  have HZB := Aside0.mk hzb
  have HCB := Aside0.mk hCb
  have HI5 := Aside0.mk (HI4.out.step hb)
  clear hR hzb hCb hb HI4 q0 q1 q2 q3 q4 q5
  obtain ⟨q0, q1, q2, q3, q4, q5⟩ := three HI5.out.2
  obtain ⟨L, hL⟩ : ∃ L, laidL p q d = L := ⟨_, rfl⟩
  have HL := Aside0.mk hL
  have HLn := Aside0.mk (show 0 < L.length ∧ L.length ≤ 2000 by
    rw [← hL]
    refine ⟨?_, (mayB_iff.1 HMay.out).2.2.2.2.2⟩
    unfold laidL; simp; omega)
  rw [hL] at HZB HCB ⊢
  clear hL
  have hL0 : ((L.length : Int) == 0) = false := by have := HLn.out.1; rw [beq_eq_false_iff_ne]; omega
  have hz1 : ¬ ((L.length : Int) = 0) := by have := HLn.out.1; omega
  obtain ⟨k, hk1, hk2, hk3, hk4⟩ := cut_at keep L.length HLn.out.1 (by have := HLn.out.2; omega)
  obtain ⟨P, cp, hcut, hCp, hcp⟩ := upto_rd (hi := (k : Int)) HCB.out HZB.out (Int.natCast_nonneg k) (Int.ofNat_le.2 (Nat.le_of_lt hk2))
  rw [Int.toNat_natCast] at hcut hCp hcp
  have HP1 := Aside0.mk (show sheet_Parse.f L = some (p, q, d, 0) by rw [← HL.out]; exact parse_some (laid_bytes HBy.out (by have := H3.out; omega)) (by rw [HL.out]; have := HLn.out.2; omega) (parse_laid HMay.out))
  have HP2 := Aside0.mk (show sheet_Parse.f (L.take k) = some (0, 0, [], 5) by
    rw [← HL.out] at hk2 ⊢
    have hB := laid_bytes (p := p) (q := q) HBy.out (by have := H3.out; omega)
    exact parse_some (hB.take k) (by rw [List.length_take, HL.out]; have := HLn.out.2; omega) (parse_take HBy.out hB HMay.out hk2))
  have HP3 := Aside0.mk (show sheet_Parse.f (L ++ [more]) = some (0, 0, [], 5) by
    rw [← HL.out]
    refine parse_some ((laid_bytes (p := p) (q := q) HBy.out (by have := H3.out; omega)).append (fun x hx => by rw [List.mem_singleton] at hx; rw [hx]; exact HM.out)) (by rw [List.length_append, HL.out]; have := HLn.out.2; simp; omega) ?_
    unfold laidL
    rw [List.append_assoc]
    exact parse_end HMay.out (by simp))
  obtain ⟨L', hL'⟩ : ∃ L', L ++ [more] = L' := ⟨_, rfl⟩
  have HL' := Aside0.mk hL'
  rw [hL'] at HP3
  clear hL'
  obtain ⟨M, hM⟩ : ∃ M, L.take k = M := ⟨_, rfl⟩
  rw [hM] at hcut hCp hcp HP2
  have HCp := Aside0.mk hCp
  have HZp := Aside0.mk hcp
  clear hk2 hCp hcp hM
  go_wp2_with fail
  refine (sheet_Parse.calls B cb L p q d 0 _ HCB.out HZB.out HP1.out).mono ?_
  rintro ev w6 ⟨v, rfl, hR, hb⟩
  obtain ⟨T, ct, rfl, hzt, hCt⟩ := Kd.R_reads hR
  have HZT := Aside0.mk hzt
  have HCT := Aside0.mk hCt
  have HCB6 := Aside0.mk (Kd.C_below HCB.out hb)
  have HCp6 := Aside0.mk (Kd.C_below HCp.out hb)
  have HI6 := Aside0.mk (HI5.out.step hb)
  clear hR hzt hCt hb HI5 HCB HCp q0 q1 q2 q3 q4 q5
  go_wp2_with fail
  obtain ⟨tb, htb⟩ : ∃ tb, w6.heap.size = tb := ⟨_, rfl⟩
  obtain ⟨w7, hw7⟩ : ∃ w7, w6.alloc (.cells #[.int .i64 p, .int .i64 q, .slice T d.length ct] 24) = w7 := ⟨_, rfl⟩
  have hb7 : Below w6.heap.size w6 w7 := by rw [← hw7]; exact below_alloc (Below.refl _ _) _
  have HXT := Aside0.mk (show w7.heap[tb]? = some (.cells #[.int .i64 p, .int .i64 q, .slice T d.length ct] 24 (0, 0)) by rw [← hw7, ← htb]; simpa using heap_alloc_new w6 _)
  have HI7 := Aside0.mk (HI6.out.step hb7)
  have HCB7 := Aside0.mk (Kd.C_below HCB6.out hb7)
  have HCp7 := Aside0.mk (Kd.C_below HCp6.out hb7)
  have HCT7 := Aside0.mk (Kd.C_below HCT.out hb7)
  rw [htb, hw7]
  clear htb hw7 hb7 HI6 HCB6 HCp6 HCT hk1 hk3 hk4 hcut
  refine (sheet_Parse.calls P cp M 0 0 [] 5 _ HCp7.out HZp.out HP2.out).mono ?_
  rintro ev w8 ⟨v, rfl, hR, hb⟩
  obtain ⟨A8, c8, rfl, -, -⟩ := Kd.R_reads hR
  have HXT8 := Aside0.mk ((hb.block tb (blk_lt HXT.out)).trans HXT.out)
  have HI8 := Aside0.mk (HI7.out.step hb)
  have HCB8 := Aside0.mk (Kd.C_below HCB7.out hb)
  have HCT8 := Aside0.mk (Kd.C_below HCT7.out hb)
  clear hR hb HI7 HCB7 HCp7 HCT7 HXT
  go_upto_region 8 with fail
  obtain ⟨w9, hw9⟩ : ∃ w9, w8.alloc (.cells #[.int .i64 0, .int .i64 0, .slice A8 0 c8] 24) = w9 := ⟨_, rfl⟩
  have hb9 : Below w8.heap.size w8 w9 := by rw [← hw9]; exact below_alloc (Below.refl _ _) _
  have HXT9 := Aside0.mk ((hb9.block tb (blk_lt HXT8.out)).trans HXT8.out)
  have HI9 := Aside0.mk (HI8.out.step hb9)
  have HCB9 := Aside0.mk (Kd.C_below HCB8.out hb9)
  have HCT9 := Aside0.mk (Kd.C_below HCT8.out hb9)
  rw [hw9]
  clear hw9 hb9 HI8 HCB8 HCT8 HXT8
  go_wp2_with (first | ((with_reducible refine gate_builtin (b := .append) (xs := #[.tmp 61, .tmp 62]) rfl ?_); at_builtin; refine Kd.R_append_rows (Kd.int .u8) (w0 := w9) w9.heap.size rfl (.tmp 61) (.tmp 62) 22 5 (.int .u8 0) 1 rfl Try.underlying22 info5 rfl (by decide) (by omega) (.slice (some ⟨w9.heap.size, 0, none⟩) 0 0) [] L B L.length cb (fun _ => True) (fun _ => False) rfl rfl (empty_R w9) (Kd.C_alloc HCB9.out _) (fun _ _ h => h) (fun _ h => h.elim) (fun _ _ => trivial) (below_alloc (Below.refl _ _) _) ?aS ?aL ?_; (case aS => simp); (case aL => have := HLn.out.2; simp; omega); intro v1 w10 ho hb hg hat; have HO10 := Aside0.mk (show Kd.R (Kd.int .u8) 5 w10 w9.heap.size (fun _ => True) v1 L from ho); have HB10 := Aside0.mk hb; clear ho hb hg hat) | ((with_reducible refine gate_builtin (b := .append) (xs := #[.tmp 63, .tmp 65]) rfl ?_); at_builtin; refine Kd.R_append (Kd.int .u8) (w0 := w9) w9.heap.size rfl (.tmp 63) (.tmp 65) 22 5 (.int .u8 0) 1 rfl Try.underlying22 info5 rfl (by decide) (by omega) v1 L more [.int .u8 more] (fun _ => True) (fun _ => False) rfl rfl rfl (fun _ h => h.elim) (fun _ _ => trivial) HO10.out HB10.out HB10.out.size ?bL ?_; (case bL => exact Nat.le_trans (Nat.mul_le_mul_right 1 (Nat.succ_le_succ HLn.out.2)) (by decide)); intro v2 w11 ho hb hg hat; rw [HL'.out] at ho; obtain ⟨A11, c11, e11, hz11, hC11⟩ := Kd.R_reads ho; subst e11; have HB11 := Aside0.mk hb; have HZ11 := Aside0.mk hz11; have HC11 := Aside0.mk hC11; clear ho hb hg hat hz11 hC11))
  refine (sheet_Parse.calls A11 c11 L' 0 0 [] 5 _ HC11.out HZ11.out HP3.out).mono ?_
  rintro ev w12 ⟨v, rfl, hR, hb⟩
  obtain ⟨A12, c12, rfl, -, -⟩ := Kd.R_reads hR
  have hb12 := below_step (below_step HB11.out hb) (below_alloc (Below.refl _ _) (.cells #[.int .i64 0, .int .i64 0, .slice A12 0 c12] 24))
  have HXT12 := Aside0.mk ((hb12.block tb (blk_lt HXT9.out)).trans HXT9.out)
  have HI12 := Aside0.mk (HI9.out.step hb12)
  have HCT12 := Aside0.mk (Kd.C_below HCT9.out hb12)
  clear hR hb hb12
  obtain ⟨p0, p1, p2, p3, p4, p5⟩ := three HXT12.out
  obtain ⟨q0, q1, q2, q3, q4, q5⟩ := three HI12.out.2
  go_wp2_with fail
  refine (potsherdref3_SameSheet.calls p q A c d p q T ct d true _ (HI12.out.C HC.out) HZ.out HCT12.out HZT.out (same_self p q d)).mono ?_
  rintro ev w13 ⟨rfl, hb⟩
  have HB13 := Aside0.mk (below_step HI12.out.1 hb)
  clear hb HI12 p0 p1 p2 p3 p4 p5 q0 q1 q2 q3 q4 q5
  go_wp2_with fail
  refine (Aw.awake _).mono ?_
  rintro ev w14 ⟨rfl, hb⟩
  have HB14 := Aside0.mk (below_step HB13.out hb)
  clear hb
  go_wp2_with fail
  go_ret
  exact ⟨rfl, HB14.out⟩
set_option maxHeartbeats 4000000 in
set_option maxRecDepth 100000 in
/-- Too heavy a sheet. -/
theorem heavy (W : World) (p q : Int) (A : Option Addr) (c : Nat) (d : List Int) (keep more : Int) (hz : d.length ≤ c) (hC : Kd.C (Kd.int .u8) W A d.length d) (h3 : ¬ d.length ≤ 3000) :
    Calls Try.prog 3 #[.agg #[.int .i64 p, .int .i64 q, .slice A d.length c], .int .i64 keep, .int .u8 more] W fun e w' => e = .returned (.bool true) ∧ Below W.heap.size W w' := by
  have HZ := Aside0.mk hz
  have HC := Aside0.mk hC
  have H3 := Aside0.mk h3
  clear hz hC h3
  go_enter Try.func3, Try.ntmps3
  go_wp2_with fail
  obtain ⟨sb, hsb⟩ : ∃ sb, W.heap.size = sb := ⟨_, rfl⟩
  obtain ⟨w1, hw1⟩ : ∃ w1, W.alloc (.cells #[.int .i64 p, .int .i64 q, .slice A d.length c] 24) = w1 := ⟨_, rfl⟩
  have hs1 : sb + 1 = w1.heap.size := by rw [← hw1, ← hsb]; simp
  have HI1 : Aside0 (Inv W sb p q (.slice A d.length c) w1) := ⟨⟨by rw [← hw1]; exact below_alloc (Below.refl _ _) _, by rw [← hw1, ← hsb]; simpa using heap_alloc_new W _⟩⟩
  rw [hsb, hw1, hs1]
  clear hsb hw1 hs1
  refine (potsherdlaw5_light.calls 3 (some ⟨w1.heap.size, 0, none⟩) 1 [⟨p, q, d⟩] false _ (one_C HZ.out (HI1.out.C HC.out)) (Nat.le_refl _) (by rw [light1, decide_eq_false H3.out])).mono ?_
  rintro ev w2 ⟨rfl, hb⟩
  have HI2 := Aside0.mk ((HI1.out.step (below_alloc (Below.refl _ _) _)).step hb)
  clear hb HI1
  go_wp2_with fail
  refine (Aw.awake _).mono ?_
  rintro ev w3 ⟨rfl, hb⟩
  have HB3 := Aside0.mk (below_step HI2.out.1 hb)
  clear hb
  go_wp2_with fail
  go_ret
  exact ⟨rfl, HB3.out⟩
set_option maxHeartbeats 4000000 in
set_option maxRecDepth 100000 in
/-- A sheet that may not be. -/
theorem not_may (W : World) (p q : Int) (A : Option Addr) (c : Nat) (d : List Int) (keep more : Int) (hz : d.length ≤ c) (hC : Kd.C (Kd.int .u8) W A d.length d) (h3 : d.length ≤ 3000) (hmay : mayB p q d = false) :
    Calls Try.prog 3 #[.agg #[.int .i64 p, .int .i64 q, .slice A d.length c], .int .i64 keep, .int .u8 more] W fun e w' => e = .returned (.bool true) ∧ Below W.heap.size W w' := by
  have HZ := Aside0.mk hz
  have HC := Aside0.mk hC
  have H3 := Aside0.mk h3
  obtain ⟨kk, hk1⟩ := (may_ev p q d).rounds
  rw [hmay] at hk1
  have HK1 := Aside0.mk hk1
  clear hz hC h3 hk1 hmay
  go_enter Try.func3, Try.ntmps3
  go_wp2_with fail
  obtain ⟨sb, hsb⟩ : ∃ sb, W.heap.size = sb := ⟨_, rfl⟩
  obtain ⟨w1, hw1⟩ : ∃ w1, W.alloc (.cells #[.int .i64 p, .int .i64 q, .slice A d.length c] 24) = w1 := ⟨_, rfl⟩
  have hs1 : sb + 1 = w1.heap.size := by rw [← hw1, ← hsb]; simp
  have HI1 : Aside0 (Inv W sb p q (.slice A d.length c) w1) := ⟨⟨by rw [← hw1]; exact below_alloc (Below.refl _ _) _, by rw [← hw1, ← hsb]; simpa using heap_alloc_new W _⟩⟩
  rw [hsb, hw1, hs1]
  clear hsb hw1 hs1
  refine (potsherdlaw5_light.calls 3 (some ⟨w1.heap.size, 0, none⟩) 1 [⟨p, q, d⟩] true _ (one_C HZ.out (HI1.out.C HC.out)) (Nat.le_refl _) (by rw [light1, decide_eq_true H3.out])).mono ?_
  rintro ev w2 ⟨rfl, hb⟩
  have HI2 := Aside0.mk ((HI1.out.step (below_alloc (Below.refl _ _) _)).step hb)
  clear hb HI1
  obtain ⟨q0, q1, q2, q3, q4, q5⟩ := three HI2.out.2
  go_wp2_with fail
  refine (sheet_May.calls kk p q A c d false _ (HI2.out.C HC.out) HZ.out HK1.out).mono ?_
  rintro ev w3 ⟨rfl, hb⟩
  have HB3 := Aside0.mk (below_step HI2.out.1 hb)
  clear hb HI2 q0 q1 q2 q3 q4 q5
  go_wp2_with fail
  refine (Aw.awake _).mono ?_
  rintro ev w4 ⟨rfl, hb⟩
  have HB4 := Aside0.mk (below_step HB3.out hb)
  clear hb
  go_wp2_with fail
  go_ret
  exact ⟨rfl, HB4.out⟩
theorem final (W : World) (cs : Array Value) (x : S24) (hK : k24.K W x cs.toList) (hok : Ok24 x) (a1 : Int) (w1 : (Lit.int .i64 a1).wf = true) (a2 : Int) (w2 : (Lit.int .u8 a2).wf = true) :
    Calls Try.prog 3 #[.agg cs, .int .i64 a1, .int .u8 a2] W fun e w' => e = .returned (.bool true) ∧ Below W.heap.size W w' := by
  obtain ⟨A, c, rfl, hz, hC⟩ := agg_of hK
  have hm : Bytes [a2] := bytes_of (fun y hy => by rw [List.mem_singleton] at hy; rw [hy]; exact w2)
  by_cases h3 : x.f2.length ≤ 3000
  · cases hmay : mayB x.f0 x.f1 x.f2 with
    | false => exact not_may W x.f0 x.f1 A c x.f2 a1 a2 hz hC h3 hmay
    | true => exact walk W x.f0 x.f1 A c x.f2 a1 a2 hz hC (bytes_of hok.2.2.2) (hm a2 (by simp)) h3 hmay
  · exact heavy W x.f0 x.f1 A c x.f2 a1 a2 hz hC h3
end Go.Proofs.Ytmoefknefopdlaa.Torn
