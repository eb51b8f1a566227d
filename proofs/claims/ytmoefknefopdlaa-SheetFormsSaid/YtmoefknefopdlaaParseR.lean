import Derived.Test.YtmoefknefopdlaaParse
set_option linter.unusedVariables false
set_option linter.unusedSimpArgs false
/-! The document's ParseSheet: what it answers. -/
namespace Go.Proofs.Ytmoefknefopdlaa.ParseR
open Go.RowKit Go.Proofs.YtmoefknefopdlaaW.PrintWords Go.Proofs.YtmoefknefopdlaaW.PrintLast Go.Proofs.YtmoefknefopdlaaW.PrintMore Go.Proofs.Ytmoefknefopdlaa.PAll Go.Proofs.Ytmoefknefopdlaa.Rdr Go.Proofs.Ytmoefknefopdlaa.St Go.Proofs.Ytmoefknefopdlaa.Sp Go.Proofs.Ytmoefknefopdlaa.Parse
attribute [local go_sem] max2_int min2_int max_two min_two max_three min_three max_four min_four
set_option maxHeartbeats 4000000 in
set_option maxRecDepth 100000 in
theorem parse_walk (A0 : Option Addr) (c0 : Nat) (b : List Int) (w : World) (hr0 : Kd.C (Kd.int .u8) w A0 b.length b) (hc0 : b.length ≤ c0) (hf : Fine b) :
    Calls Try.prog 17 #[.slice A0 b.length c0] w fun e w' => ∃ v2_ : Value, e = .returned (.tuple #[.agg #[.int .i64 (parseL b).1, .int .i64 (parseL b).2.1, v2_], .int .i64 (parseL b).2.2.2]) ∧ Kd.R (Kd.int .u8) 5 w' w.heap.size (fun _ => True) v2_ (parseL b).2.2.1 ∧ Below w.heap.size w w' := by
  obtain ⟨v1, l1, e1, h1⟩ : ∃ v1 l1 e1, numStep b 0 60 = (v1, l1, e1) := ⟨_, _, _, rfl⟩
  obtain ⟨v2, l2, e2, h2⟩ : ∃ v2 l2 e2, numStep l1 e1 1099511627776 = (v2, l2, e2) := ⟨_, _, _, rfl⟩
  obtain ⟨v3, l3, e3, h3⟩ : ∃ v3 l3 e3, textStep l2 e2 2000 = (v3, l3, e3) := ⟨_, _, _, rfl⟩
  have hf1 : Fine l1 := by have := numStep_fine hf 0 60; rw [h1] at this; exact this
  have hf2 : Fine l2 := by have := numStep_fine hf1 e1 1099511627776; rw [h2] at this; exact this
  have hP : parseL b = if e3 = 0 ∧ l3 = [90] ∧ mayB v1 v2 v3 = true then (v1, v2, v3, 0) else (0, 0, [], 5) := by
    unfold parseL parse3; rw [h1]; simp only; rw [h2]; simp only; rw [h3]
  have HP := Aside0.mk hP
  have H1 := Aside0.mk h1
  have H2 := Aside0.mk h2
  have H3 := Aside0.mk h3
  have HF1 := Aside0.mk hf1
  have HF2 := Aside0.mk hf2
  clear hP h1 h2 h3 hf1 hf2
  have HR0 := Aside0.mk hr0
  have HC0 := Aside0.mk hc0
  have HF := Aside0.mk hf
  clear hr0 hc0 hf
  rw [HP.out]
  obtain ⟨R, hR⟩ : ∃ R, (if e3 = 0 ∧ l3 = [90] ∧ mayB v1 v2 v3 = true then (v1, v2, v3, 0) else ((0 : Int), (0 : Int), ([] : List Int), (5 : Int))) = R := ⟨_, rfl⟩
  have HRe := Aside0.mk hR
  rw [hR]
  clear hR
  go_enter Try.func17, Try.ntmps17
  go_wp2_with fail
  obtain ⟨sb, hsb⟩ : ∃ sb, w.heap.size = sb := ⟨_, rfl⟩
  obtain ⟨u, hu⟩ : ∃ u, w.alloc (.cells #[.int .i64 0, .int .i64 0, .slice none 0 0] 24) = u := ⟨_, rfl⟩
  have hus : u.heap.size = sb + 1 := by rw [← hu, ← hsb]; simp
  obtain ⟨g, hg⟩ : ∃ g, sb + 1 = g := ⟨_, rfl⟩
  have HBX : Aside0 (u.heap[sb]? = some (.cells #[.int .i64 0, .int .i64 0, .slice none 0 0] 24 (0, 0))) := ⟨by rw [← hsb, ← hu]; simpa using heap_alloc_new w _⟩
  have HSB := Aside0.mk hsb
  have HSBG := Aside0.mk (show sb ≠ g by omega)
  have HU : Aside0 (Below w.heap.size w u) := ⟨by rw [← hu]; exact below_alloc (Below.refl _ _) _⟩
  have HRs : Aside0 (Kd.C (Kd.int .u8) u A0 b.length b) := ⟨by rw [← hu]; exact Kd.C_alloc HR0.out _⟩
  have HI1 : Aside0 (IsRd 52 u (u.alloc (.cells #[.slice A0 b.length c0, .int .i64 0] 52)) g b 0) := ⟨⟨A0, c0, by rw [← hg, ← hus]; simpa using heap_alloc_new u _, by omega, HRs.out, HC0.out⟩⟩
  have HB1 : Aside0 (Below u.heap.size u (u.alloc (.cells #[.slice A0 b.length c0, .int .i64 0] 52))) := ⟨below_alloc (Below.refl _ _) _⟩
  have HX1 : Aside0 ((u.alloc (.cells #[.slice A0 b.length c0, .int .i64 0] 52)).heap[sb]? = some (.cells #[.int .i64 0, .int .i64 0, .slice none 0 0] 24 (0, 0))) := ⟨(HB1.out.block sb (blk_lt HBX.out)).trans HBX.out⟩
  rw [hsb, hu, hg]
  obtain ⟨w1, hw1⟩ : ∃ w1, u.alloc (.cells #[.slice A0 b.length c0, .int .i64 0] 52) = w1 := ⟨_, rfl⟩
  rw [hw1] at HI1 HB1 HX1 ⊢
  clear hsb hu hus hg hw1
  refine (ref_numberE H1.out HI1.out HB1.out HF.out).mono ?_
  rintro ev w2 ⟨rfl, hI, hB, hK⟩
  have HX2 := Aside0.mk (box_after HX1.out hK HSBG.out)
  have HI2 := Aside0.mk hI
  have HB2 := Aside0.mk hB
  clear hI hB hK HI1 HB1 HX1
  go_wp2_with fail
  refine (ref_numberE H2.out HI2.out HB2.out HF1.out).mono ?_
  rintro ev w3 ⟨rfl, hI, hB, hK⟩
  have HX3 := Aside0.mk (box_after HX2.out hK HSBG.out)
  have HI3 := Aside0.mk hI
  have HB3 := Aside0.mk hB
  clear hI hB hK HI2 HB2 HX2
  go_wp2_with fail
  refine (ref_textE H3.out HI3.out HB3.out HF2.out).mono ?_
  rintro ev w4 ⟨tv, rfl, hR, hI, hB, hK⟩
  obtain ⟨A4, c4, rfl, hz4, hC4⟩ := Kd.R_reads hR
  have HX4 := Aside0.mk (box_after HX3.out hK HSBG.out)
  have HI4 := Aside0.mk hI
  have HB4 := Aside0.mk hB
  have HR4 := Aside0.mk hR
  have HZ4 := Aside0.mk hz4
  have HC4 := Aside0.mk hC4
  have HLT := Aside0.mk (blk_lt HX3.out)
  clear hI hB hK hR hz4 hC4 HI3 HB3 HX3
  obtain ⟨w5, hw5⟩ : ∃ w5, w4.alloc (.cells #[.int .i64 v1, .int .i64 v2, .slice A4 v3.length c4] 24) = w5 := ⟨_, rfl⟩
  have HW5 := Aside0.mk hw5
  obtain ⟨tb, htb⟩ : ∃ tb, w4.heap.size = tb := ⟨_, rfl⟩
  have hbb : Below w4.heap.size w4 w5 := by rw [← hw5]; exact below_alloc (Below.refl _ _) _
  have HXt5 : Aside0 (w5.heap[tb]? = some (.cells #[.int .i64 v1, .int .i64 v2, .slice A4 v3.length c4] 24 (0, 0))) := ⟨by rw [← hw5, ← htb]; simpa using heap_alloc_new w4 _⟩
  have HXs5 : Aside0 (w5.heap[sb]? = some (.cells #[.int .i64 0, .int .i64 0, .slice none 0 0] 24 (0, 0))) := ⟨(hbb.block sb (blk_lt HX4.out)).trans HX4.out⟩
  have HI5 : Aside0 (IsRd 52 u w5 g l3 e3) := ⟨HI4.out.below hbb⟩
  have HB5 : Aside0 (Below u.heap.size u w5) := ⟨below_weaken HB4.out HB4.out.size hbb⟩
  have HR5 : Aside0 (Kd.R (Kd.int .u8) 5 w5 u.heap.size (fun k_ => w3.heap.size ≤ k_) (.slice A4 v3.length c4) v3) := ⟨Kd.R_below HR4.out hbb⟩
  have HC5 : Aside0 (Kd.C (Kd.int .u8) w5 A4 v3.length v3) := ⟨Kd.C_below HC4.out hbb⟩
  have HSW := Aside0.mk (show w.heap.size ≤ sb by rw [HSB.out]; exact Nat.le_refl _)
  have HWA := Aside0.mk (below_step HU.out HB5.out)
  have HTB := Aside0.mk htb
  clear hw5 hbb htb HI4 HB4 HR4 HC4 HX4
  obtain ⟨p0, p1, p2, p3, p4, p5⟩ := three HXs5.out
  obtain ⟨q0, q1, q2, q3, q4, q5⟩ := three HXt5.out
  obtain ⟨A, c, hb5, hg5, hC6, hc6⟩ := HI5.out
  obtain ⟨y0, y1, -, -⟩ := cells_of hb5
  have HC6 := Aside0.mk (Kd.C_below hC6 HB5.out)
  clear hb5 hg5 hC6 hc6
  by_cases k0 : e3 = 0
  · subst k0
    by_cases k1 : l3.length = 1
    · obtain ⟨z, rfl⟩ := List.length_eq_one_iff.1 k1
      obtain ⟨ad, rfl, hx⟩ := int_at HC6.out 0 (by simp)
      replace hx : w5.cell? ad = some (.int .u8 z) := by simpa [Addr.add] using hx
      by_cases k2 : z = 90
      · subst k2
        clear k1
        obtain ⟨kk, hkk⟩ := (refMay_ev v1 v2 v3).rounds
        have HKK := Aside0.mk hkk
        clear hkk
        by_cases k4 : mayB v1 v2 v3 = true
        · have hR0 : R = (v1, v2, v3, 0) := by rw [← HRe.out, if_pos ⟨rfl, rfl, k4⟩]
          subst hR0
          rw [k4] at HKK
          clear k4
          go_upto_region 3 with fail
          rw [HW5.out, HTB.out]
          go_wp2_with (go_at_call 11; refine (potsherdref3_MaySheet.calls kk v1 v2 A4 c4 v3 true _ HC5.out HZ4.out HKK.out).mono ?_; rintro ev w6 ⟨rfl, hb⟩; have HB6 := Aside0.mk hb; have HXs6 := Aside0.mk ((hb.block sb (blk_lt HXs5.out)).trans HXs5.out); have HXt6 := Aside0.mk ((hb.block tb (blk_lt HXt5.out)).trans HXt5.out); clear hb p0 p1 p2 p3 p4 p5 q0 q1 q2 q3 q4 q5; obtain ⟨p0, p1, p2, p3, p4, p5⟩ := three HXs6.out; obtain ⟨q0, q1, q2, q3, q4, q5⟩ := three HXt6.out)
          refine bodyPost_ret (results_ct rfl _ _ sb 24 #[.int .i64 v1, .int .i64 v2, .slice A4 v3.length c4] (0, 0) _ rfl (three_set HXs6.out _ _ _) Try.underlying24 rfl (by kernel_rfl)) rfl ?_
          have hlt : ∀ k, w3.heap.size ≤ k → k ≠ sb := fun k hk => by have := HLT.out; omega
          refine ⟨_, rfl, Kd.R_mono (Kd.R_lower (Kd.R_far (p := ⟨sb, 2, none⟩) (Kd.R_far (p := ⟨sb, 1, none⟩) (Kd.R_far (p := ⟨sb, 0, none⟩) (Kd.R_below HR5.out HB6.out) hlt _) hlt _) hlt _) HU.out.size) (fun _ _ => trivial), (((below_step HWA.out HB6.out).setCell HSW.out _).setCell HSW.out _).setCell HSW.out _⟩
        · have hR0 : R = (0, 0, [], 5) := by rw [← HRe.out, if_neg]; rintro ⟨-, -, h⟩; exact k4 h
          subst hR0
          replace k4 := Bool.eq_false_iff.mpr k4
          rw [k4] at HKK
          clear k4
          go_upto_region 3 with fail
          rw [HW5.out, HTB.out]
          go_wp2_with (go_at_call 11; refine (potsherdref3_MaySheet.calls kk v1 v2 A4 c4 v3 false _ HC5.out HZ4.out HKK.out).mono ?_; rintro ev w6 ⟨rfl, hb⟩; have HB6 := Aside0.mk hb; have HXs6 := Aside0.mk ((hb.block sb (blk_lt HXs5.out)).trans HXs5.out); have HXt6 := Aside0.mk ((hb.block tb (blk_lt HXt5.out)).trans HXt5.out); clear hb p0 p1 p2 p3 p4 p5 q0 q1 q2 q3 q4 q5; obtain ⟨p0, p1, p2, p3, p4, p5⟩ := three HXs6.out; obtain ⟨q0, q1, q2, q3, q4, q5⟩ := three HXt6.out)
          refine bodyPost_ret (results_ct rfl _ _ sb 24 #[.int .i64 0, .int .i64 0, .slice none 0 0] (0, 0) _ rfl (three_set HXs6.out _ _ _) Try.underlying24 rfl (by kernel_rfl)) rfl ?_
          exact ⟨_, rfl, Kd.R_nil _ _ _ _ _, (((below_step HWA.out HB6.out).setCell HSW.out _).setCell HSW.out _).setCell HSW.out _⟩
      · have k3 : (z != 90) = true := by simpa using k2
        have hR0 : R = (0, 0, [], 5) := by rw [← HRe.out, if_neg]; rintro ⟨-, h, -⟩; exact k2 (List.singleton_inj.1 h)
        subst hR0
        clear k2 k1
        go_upto_region 3 with fail
        rw [HW5.out, HTB.out]
        go_wp2
        refine bodyPost_ret (results_ct rfl _ _ sb 24 #[.int .i64 0, .int .i64 0, .slice none 0 0] (0, 0) _ rfl (three_set HXs5.out _ _ _) Try.underlying24 rfl (by kernel_rfl)) rfl ?_
        exact ⟨_, rfl, Kd.R_nil _ _ _ _ _, ((HWA.out.setCell HSW.out _).setCell HSW.out _).setCell HSW.out _⟩
    · have k2 : ((l3.length : Int) != 1) = true := by simpa using (show ¬ (l3.length : Int) = 1 by omega)
      have hR0 : R = (0, 0, [], 5) := by rw [← HRe.out, if_neg]; rintro ⟨-, h, -⟩; rw [h] at k1; exact k1 rfl
      subst hR0
      clear k1
      go_upto_region 3 with fail
      rw [HW5.out, HTB.out]
      go_wp2
      refine bodyPost_ret (results_ct rfl _ _ sb 24 #[.int .i64 0, .int .i64 0, .slice none 0 0] (0, 0) _ rfl (three_set HXs5.out _ _ _) Try.underlying24 rfl (by kernel_rfl)) rfl ?_
      exact ⟨_, rfl, Kd.R_nil _ _ _ _ _, ((HWA.out.setCell HSW.out _).setCell HSW.out _).setCell HSW.out _⟩
  · have k1 : (e3 != 0) = true := by simpa using k0
    have hR0 : R = (0, 0, [], 5) := by rw [← HRe.out, if_neg]; rintro ⟨h, -⟩; exact k0 h
    subst hR0
    clear k0
    go_upto_region 3 with fail
    rw [HW5.out, HTB.out]
    go_wp2
    refine bodyPost_ret (results_ct rfl _ _ sb 24 #[.int .i64 0, .int .i64 0, .slice none 0 0] (0, 0) _ rfl (three_set HXs5.out _ _ _) Try.underlying24 rfl (by kernel_rfl)) rfl ?_
    exact ⟨_, rfl, Kd.R_nil _ _ _ _ _, ((HWA.out.setCell HSW.out _).setCell HSW.out _).setCell HSW.out _⟩
end Go.Proofs.Ytmoefknefopdlaa.ParseR
namespace Go.Proofs.Ytmoefknefopdlaa.PAll
open Go.RowKit Go.Proofs.YtmoefknefopdlaaW.PrintWords Go.Proofs.YtmoefknefopdlaaW.PrintLast Go.Proofs.YtmoefknefopdlaaW.PrintMore
def potsherdref3_ParseSheet.f (l0 : List Int) : Option (Int × Int × List Int × Int) := if (∀ x ∈ l0, 0 ≤ x ∧ x < 256) ∧ l0.length ≤ 1000000 then some (Sp.parseL l0) else none
theorem potsherdref3_ParseSheet.calls (A0 : Option Addr) (c0 : Nat) (l0 : List Int) (r1 : Int) (r2 : Int) (r3 : List Int) (r4 : Int) (w : World) (hr0 : Kd.C (Kd.int .u8) w A0 l0.length l0) (hc0 : l0.length ≤ c0) (h : potsherdref3_ParseSheet.f l0 = some (r1, r2, r3, r4)) :
    Calls Try.prog 17 #[.slice A0 l0.length c0] w fun e w' => ∃ v2_ : Value, e = .returned (.tuple #[.agg #[.int .i64 r1, .int .i64 r2, v2_], .int .i64 r4]) ∧ Kd.R (Kd.int .u8) 5 w' w.heap.size (fun _ => True) v2_ r3 ∧ Below w.heap.size w w' := by
  unfold potsherdref3_ParseSheet.f at h
  by_cases hf : (∀ x ∈ l0, 0 ≤ x ∧ x < 256) ∧ l0.length ≤ 1000000
  · rw [if_pos hf] at h
    have := ParseR.parse_walk A0 c0 l0 w hr0 hc0 hf
    rw [Option.some.inj h] at this
    exact this
  · rw [if_neg hf] at h
    cases h
end Go.Proofs.Ytmoefknefopdlaa.PAll
