import Derived.Test.YtkncmbbkehnagaaZb10
set_option linter.unusedVariables false
set_option linter.unusedSimpArgs false
/-! MountNew. -/
namespace Go.Proofs.Ytkncmbbkehnagaa.Cm
open Go.RowKit Go.Proofs.YtkncmbbkehnagaaW.PrintWords Go.Proofs.YtkncmbbkehnagaaW.PrintLast Go.Proofs.YtkncmbbkehnagaaW.PrintMore Go.Proofs.Ytkncmbbkehnagaa.Kp Go.Proofs.Ytkncmbbkehnagaa.Cp Go.Proofs.Ytkncmbbkehnagaa.PAll Go.Proofs.Ytkncmbbkehnagaa.Iter Go.Proofs.Ytkncmbbkehnagaa.St Go.Proofs.Ytkncmbbkehnagaa.Sp Go.Proofs.Ytkncmbbkehnagaa.Pl1 Go.Proofs.Ytkncmbbkehnagaa.Pl2
attribute [local go_sem] max2_int min2_int max_two min_two max_three min_three max_four min_four

set_option maxHeartbeats 4000000 in
set_option maxRecDepth 100000 in
theorem newNot {W : World} {A : Option Addr} {c : Nat} {l : List S28} (a1 a2 : Int) (hC : Kd.C k28 W A l.length l) (h : 10 < l.length ∨ (l.length ≤ 10 ∧ l.all ltB = false)) : Calls Try.prog 6 #[.slice A l.length c, .int .i64 a1, .int .i64 a2] W fun e w' => e = .returned (.bool true) ∧ Below W.heap.size W w' := by
  have HC := Aside0.mk hC
  have HH := Aside0.mk h
  clear hC h
  have d6 : ((6 : Int) == 0) = false := rfl
  have d30 : ((30 : Int) == 0) = false := rfl
  go_enter Try.func6, Try.ntmps6
  rcases HH.out with h | ⟨h, hm⟩
  · have d1 : decide ((10 : Int) < l.length) = true := decide_eq_true (by omega)
    have d2 : decide (10 < l.length) = true := decide_eq_true (by omega)
    clear h
    go_wp2_with fail
    refine (awake11 W).mono ?_
    rintro ev w2 ⟨rfl, hb⟩
    go_wp2_with fail
    go_ret
    exact ⟨rfl, hb⟩
  · have d1 : decide ((10 : Int) < l.length) = false := decide_eq_false (by omega)
    have d2 : decide (10 < l.length) = false := decide_eq_false (by omega)
    go_wp2_with fail
    refine (light11 HC.out (by omega)).mono ?_
    rintro ev w2 ⟨rfl, hb⟩
    have HB := Aside0.mk hb
    rw [hm]
    clear h hb
    go_wp2_with fail
    refine (awake11 w2).mono ?_
    rintro ev w3 ⟨rfl, hb⟩
    have hbb := below_step HB.out hb
    go_wp2_with fail
    go_ret
    exact ⟨rfl, hbb⟩
set_option maxRecDepth 100000 in
theorem fieldBL (a b c : Int) (W : World) : (Instr.field 59 (.agg #[.int .i64 a, .int .i64 b, .int .i64 c]) 0).run Try.prog W = .ok (.int .i64 a) W := by rfl
set_option maxHeartbeats 4000000 in
set_option maxRecDepth 100000 in
theorem newWalk {W : World} {A : Option Addr} {c : Nat} {l : List S28} (a1 a2 : Int) (hC : Kd.C k28 W A l.length l) (hz : l.length ≤ c) (hl : l.length ≤ 10) (hlt : l.all ltB = true) (hby : ∀ x ∈ l, Bytes x.f2) (N n : Nat) (hN : wrap64 (1 + wrap64 (Int.tmod (IntKind.u64.wrap a1) 6)) = (N : Int)) (hN1 : 1 ≤ N ∧ N ≤ 6) (hn : wrap64 (1 + wrap64 (Int.tmod (IntKind.u64.wrap a2) 30)) = (n : Int)) (hn1 : 1 ≤ n ∧ n ≤ 30) :
    Calls Try.prog 6 #[.slice A l.length c, .int .i64 a1, .int .i64 a2] W fun e w' => e = .returned (.bool true) ∧ Below W.heap.size W w' := by
  obtain ⟨nb, hNb⟩ : ∃ nb, nb + 1 = N := ⟨N - 1, by omega⟩
  have HNN := Aside0.mk hNb
  have HC := Aside0.mk hC
  have HZ := Aside0.mk hz
  have HL := Aside0.mk hl
  have HLT := Aside0.mk hlt
  have HBY := Aside0.mk hby
  have HN := Aside0.mk hN
  have HN1 := Aside0.mk hN1
  have Hn := Aside0.mk hn
  have Hn1 := Aside0.mk hn1
  have d6 : ((6 : Int) == 0) = false := rfl
  have d30 : ((30 : Int) == 0) = false := rfl
  have d1 : decide ((10 : Int) < l.length) = false := decide_eq_false (by omega)
  have d2 : decide (10 < l.length) = false := decide_eq_false (by omega)
  clear hC hz hl hlt hby hN hN1 hn hn1 hNb
  go_enter Try.func6, Try.ntmps6
  go_upto_region 2 with fail
  rw [HN.out, Hn.out]
  go_wp2_with fail
  refine (light11 HC.out (by have := HL.out; omega)).mono ?_
  rintro ev w1 ⟨rfl, hb⟩
  rw [HLT.out]
  have HB1 := Aside0.mk hb
  clear hb
  go_wp2_with fail
  refine (newH w1 N 10 none 0 [] (C_none8 w1) (by decide) (by decide) HN1.out.1 (by have := HN1.out.2; omega) (by decide) (by decide)).mono ?_
  rintro ev w2 ⟨g, rfl, hh, hbn⟩
  obtain ⟨S0, hS⟩ : ∃ S : Nat → Prop, (fun k => w1.heap.size ≤ k ∧ k < w2.heap.size) = S := ⟨_, rfl⟩
  rw [hS, new_mkC] at hh
  have HBN := Aside0.mk hbn
  have HH0 : Aside0 (Hd w2 w1.heap.size S0 g (mkC 10 (nwL nb (l.take 0)) 0 0 0)) := ⟨by rw [← HNN.out] at hh; exact hh⟩
  clear hh hbn hS
  go_upto_region 8 with fail
  go_loopw [8, 9] (fun v8 v9 wr => ∃ (k : Nat) (r bp : Int) (S : Nat → Prop), k ≤ l.length ∧ v8 = .int .i64 (seqM (l.take k)) ∧ v9 = .int .i64 (k : Int) ∧ Aside0 (0 ≤ r ∧ r ≤ 10 * k) ∧ Aside0 (Hd wr w1.heap.size S g (mkC 10 (nwL nb (l.take k)) r bp 0)) ∧ Aside0 (∀ x ∈ l.take k, GoodS x) ∧ Aside0 (Below w1.heap.size w1 wr)) (fun _ v9 _ => l.length - (intOf v9).toNat)
  case atStart => exact ⟨0, 0, 0, S0, Nat.zero_le _, rfl, rfl, ⟨by omega⟩, HH0, ⟨fun x hx => by simp at hx⟩, HBN⟩
  case round =>
    obtain ⟨k, r, bp, S, hk, rfl, rfl, HR, HH, HG, HB⟩ := hrel
    have HK := Aside0.mk hk
    have HOK : Aside0 (OkL 10 (nwL nb (l.take k))) := ⟨nwL_ok (by rw [List.length_take]; have := HL.out; omega) HG.out⟩
    have HNL : Aside0 ((nwL nb (l.take k)).length = N) := ⟨by rw [nwL_len]; exact HNN.out⟩
    clear hk
    go_wp2_with fail
    refine (sd_new HB.out HH.out HOK.out (by rw [HNL.out]; exact HN1.out.1)).mono ?_
    rintro ev w3 ⟨q, rfl, -, -, hs3⟩
    have HS3 := Aside0.mk hs3
    clear hs3
    go_wp2_with fail
    have hc3 : Hd w3 w1.heap.size S g (mkC 10 (nwL nb (l.take k)) r bp 0) := HS3.out.chip
    have hcb : Calls Try.prog 21 #[.pointer (some ⟨g, 0, none⟩)] w3 fun e w' => e = .returned (.agg #[.int .i64 r, .int .i64 bp, .int .i64 0]) ∧ Below w3.heap.size w3 w' := bill hc3.chip
    refine hcb.mono ?_
    clear hcb hc3
    rintro ev w4 ⟨rfl, hb4⟩
    have HS4 := Aside0.mk (HS3.out.step hb4)
    clear hb4 HS3
    have hfld := fieldBL
    go_wp2_with fail
    clear hfld
    refine (steps w4 n (by have := Hn1.out.1; omega) (by have := Hn1.out.2; omega)).mono ?_
    rintro ev w5 ⟨m, rfl, hm1, hm2, hb5⟩
    have HS5 := Aside0.mk (HS4.out.step hb5)
    have HM := Aside0.mk (And.intro hm1 hm2)
    clear hb5 HS4 hm1 hm2
    go_upto_region 11 with fail
    go_loopw [47] (fun v47 wr => ∃ (i : Nat), v47 = .int .i64 (i : Int) ∧ Aside0 (i * n < N * 10) ∧ Aside0 (Sg w1 wr w1.heap.size S g q (mkC 10 (nwL nb (l.take k)) r bp 0) (spots2 (nwL nb (l.take k)).length 10) (i * n))) (fun v47 _ => 100 - (intOf v47).toNat)
    case atStart => exact ⟨0, rfl, ⟨by have := HN1.out.1; omega⟩, ⟨by rw [Nat.zero_mul]; exact HS5.out⟩⟩
    case round =>
      clear HS5
      obtain ⟨i, rfl, HI, HSI⟩ := hrel
      obtain ⟨P, hP⟩ : ∃ P, i * n = P := ⟨_, rfl⟩
      have hiP : i ≤ P := by rw [← hP]; exact Nat.le_mul_of_pos_right _ Hn1.out.1
      have hsP : (i + 1) * n = P + n := by rw [Nat.succ_mul, hP]
      rw [hP] at HI HSI
      have hP60 : P < 60 := by have := HI.out; have := HN1.out.2; omega
      have dm : decide ((i : Int) < (m : Int)) = true := decide_eq_true (by have := HM.out.1; omega)
      have dm2 : decide (i < m) = true := decide_eq_true (by have := HM.out.1; omega)
      have hw3 : wrap64 ((i : Int) + 1) = ((i + 1 : Nat) : Int) := by rw [show (i : Int) + 1 = ((i + 1 : Nat) : Int) by omega]; exact wrap_small _ (by omega) (by omega)
      have HMS : Aside0 (100 - ((i + 1 : Nat) : Int).toNat < 100 - ((i : Nat) : Int).toNat) := ⟨by omega⟩
      have HSP := Aside0.mk hsP
      clear hP hiP hsP hP60
      obtain ⟨k', hk1, hk2⟩ : ∃ k' : Nat, (k' : Int) = (if ((N * 10 : Nat) : Int) < P + n then ((N * 10 : Nat) : Int) else P + n) ∧ k' = if N * 10 < P + n then N * 10 else P + n := ⟨if N * 10 < P + n then N * 10 else P + n, by split <;> split <;> omega, rfl⟩
      have HK1 := Aside0.mk hk1
      clear hk1
      by_cases hd : N * 10 ≤ P + n
      · have hk' : k' = N * 10 := by rw [hk2]; split <;> omega
        have HKE := Aside0.mk hk'
        clear hk2 hd hk'
        go_wp2_with fail
        refine (sd_step HSI.out HOK.out (by rw [HNL.out]; exact HN1.out.1) (by rw [HNL.out]; have := HN1.out.2; omega) (by decide) (by decide) n (by have := Hn1.out.1; omega) (by rw [HNL.out]; exact Nat.le_of_lt HI.out) k' (by rw [HNL.out]; exact HK1.out)).mono ?_
        rintro ev w6 ⟨rfl, hs6⟩
        have hs6' := hs6.over (by rw [HNL.out]; exact HN1.out.1) (by rw [HNL.out]; have := HN1.out.2; omega) (by decide) (by decide) (by rw [HNL.out, HKE.out]; exact Nat.le_refl _)
        have hbr := nw_br (nb := nb) (p := 10) (l := l.take k) (r := r) (bp := bp) (kp := 0) (by rw [HNN.out]; have := HN1.out.2; omega) (by decide) (by decide) HR.out.1 (by have := HR.out.2; have := HK.out; have := HL.out; omega)
        rw [nw_F (by rw [List.length_take]; have := HL.out; omega) HG.out, nw_N (by rw [List.length_take]; have := HL.out; omega) HG.out, nwL_len] at hs6'
        obtain ⟨r', hr1, hr2, hr3, hr4⟩ := hbr
        rw [hr1] at hs6'
        have HS6 := Aside0.mk hs6'
        have HR6 := Aside0.mk (And.intro hr2 (And.intro hr3 hr4))
        rw [HNL.out, HKE.out, decide_eq_true (Nat.le_refl _)]
        clear hs6 hs6' hr1 hr2 hr3 hr4 HSI HMS HSP HKE HK1 HI
        go_wp2_with fail
        have hlen : (fds 0 (l.take k)).length = k := by rw [fds_len, List.length_take]; have := HK.out; omega
        have HLEN := Aside0.mk hlen
        clear hlen
        refine (sc_found HS6.out (by rw [HLEN.out]; have := HK.out; have := HL.out; omega)).mono ?_
        rintro ev w7 ⟨v, rfl, hR7, hb7⟩
        obtain ⟨A7, c7, rfl, -, -⟩ := Kd.R_reads hR7
        rw [HLEN.out]
        have HS7 := Aside0.mk (HS6.out.step hb7)
        clear hR7 hb7 HS6
        go_wp2_with fail
        refine (sc_seq HS7.out (by rw [HLEN.out]; have := HK.out; have := HL.out; omega)).mono ?_
        rintro ev w8 ⟨rfl, hb8⟩
        rw [mostQ_fds]
        have HS8 := Aside0.mk (HS7.out.step hb8)
        clear hb8 HS7
        have hwd : wrap64 (r' - r) = r' - r := by have := HR6.out; have := HR.out; unfold wrap64; omega
        have hd10 : decide (10 < r' - r) = false := decide_eq_false (by have := HR6.out; omega)
        rcases Nat.eq_zero_or_pos k with h0 | h0
        · have HRE : Aside0 (r' = r) := ⟨HR6.out.2.2 (by rw [h0]; rfl)⟩
          have dk0 : ((k : Int) == 0) = true := by rw [h0]; rfl
          have dk1 : (k == 0) = true := by rw [h0]; rfl
          have dk2 : decide ((k : Int) = 0) = true := by rw [h0]; rfl
          have dk3 : decide (k = 0) = true := by rw [h0]; rfl
          have hre := HRE.out
          subst hre
          have hw0 : wrap64 0 = 0 := by unfold wrap64; omega
          clear h0
          go_wp2_with fail
          have hcb : Calls Try.prog 21 #[.pointer (some ⟨g, 0, none⟩)] w8 fun e w' => e = .returned (.agg #[.int .i64 r', .int .i64 bp, .int .i64 0]) ∧ Below w8.heap.size w8 w' := bill HS8.out.chip.chip
          refine hcb.mono ?_
          clear hcb
          rintro ev w9 ⟨rfl, hb_⟩
          have HS9 := Aside0.mk (HS8.out.step hb_)
          have hfld := fieldBL
          clear hb_ HS8
          go_wp2_with fail
          clear hfld
          have hcb : Calls Try.prog 21 #[.pointer (some ⟨g, 0, none⟩)] w9 fun e w' => e = .returned (.agg #[.int .i64 r', .int .i64 bp, .int .i64 0]) ∧ Below w9.heap.size w9 w' := bill HS9.out.chip.chip
          refine hcb.mono ?_
          clear hcb
          rintro ev w10 ⟨rfl, hb_⟩
          have HS10 := Aside0.mk (HS9.out.step hb_)
          have hfld := fieldBL
          clear hb_ HS9
          rcases Nat.lt_or_ge k l.length with hkl | hkl
          · have e0 : ((k : Int) == (l.length : Int)) = false := by rw [beq_eq_false_iff_ne]; omega
            have e1 : (k == l.length) = false := by rw [beq_eq_false_iff_ne]; omega
            have e2 : decide ((k : Int) = (l.length : Int)) = false := decide_eq_false (by omega)
            have e3 : decide (k = l.length) = false := decide_eq_false (by omega)
            have e4 : decide ((k : Int) < (l.length : Int)) = true := decide_eq_true (by omega)
            have e5 : decide (k < l.length) = true := decide_eq_true hkl
            have e6 : (k : Int) < (l.length : Int) := by omega
            have HKL := Aside0.mk hkl
            have hw4 : wrap64 ((k : Int) + 1) = ((k + 1 : Nat) : Int) := by rw [show (k : Int) + 1 = ((k + 1 : Nat) : Int) by omega]; exact wrap_small _ (by omega) (by have := HL.out; omega)
            obtain ⟨x, hx⟩ : ∃ x, l[k]? = some x := ⟨_, List.getElem?_eq_getElem hkl⟩
            have hrd : rd_T28 l (k : Int) = x := by unfold rd_T28; rw [List.getD_eq_getElem?_getD, Int.toNat_natCast, hx]; rfl
            obtain ⟨ad, A5, c5, hA5, x0, x1, x2, hle5, hC5⟩ := at_T28 HC.out (k : Int) (by omega) e6
            have HBW := Aside0.mk (below_step HB1.out HS10.out.below)
            rw [hrd] at x0 x1 x2 hle5 hC5
            rw [Int.toNat_natCast] at x0 x1 x2
            have HX1 := Aside0.mk x1
            replace x0 := pw_cell_below HBW.out x0
            replace x1 := pw_cell_below HBW.out x1
            replace x2 := pw_cell_below HBW.out x2
            cases hA5
            have HX := Aside0.mk hx
            have HC5 := Aside0.mk hC5
            have HLE5 := Aside0.mk hle5
            have HXM : Aside0 (x ∈ l) := ⟨List.mem_of_getElem? hx⟩
            clear hkl hx hrd hC5 hle5
            go_wp2_with fail
            clear hfld
            obtain ⟨kk, hkk⟩ := (refBytes_ev x.f0 x.f1 x.f2).rounds
            unfold bytesL at hkk
            by_cases hmy : mayB x.f0 x.f1 x.f2 = true
            · rw [if_pos hmy] at hkk
              have HGX : Aside0 (GoodS x) := ⟨⟨hmy, HBY.out x HXM.out⟩⟩
              obtain ⟨X, hX⟩ : ∃ X, laidL x.f0 x.f1 x.f2 = X := ⟨_, rfl⟩
              rw [hX] at hkk
              have HXL := Aside0.mk hX
              have HXF : Aside0 (1 ≤ X.length ∧ X.length ≤ 2000) := ⟨by rw [← hX]; exact HGX.out.fine.2⟩
              have HKK := Aside0.mk hkk
              clear hmy hkk hX
              refine (potsherdref3_SheetBytes.calls kk x.f0 x.f1 A5 c5 x.f2 X 0 w10 (Kd.C_below HC5.out HBW.out) HLE5.out HKK.out).mono ?_
              rintro ev w11 ⟨v, rfl, hR11, hb11⟩
              obtain ⟨A11, c11, rfl, hz11, hC11⟩ := Kd.R_reads hR11
              have HS11 := Aside0.mk (HS10.out.step hb11)
              have hch : Hd w11 w1.heap.size S g (mkC 10 (nwL nb (l.take k)) r' bp 0) := HS11.out.chip
              have HCH := Aside0.mk hch
              have HA11 : Aside0 (∀ a_, A11 = some a_ → a_.block < w11.heap.size ∧ ¬ S a_.block) := ⟨fun a_ hA => by
                obtain ⟨q1, q2⟩ := R_at hR11 a_ hA
                refine ⟨q2, fun hs => ?_⟩
                have := HS10.out.chip.lt _ hs
                omega⟩
              have HC11 := Aside0.mk hC11
              have HZ11 := Aside0.mk hz11
              clear hch hR11 hb11 hz11 hC11 x0 x1 x2
              have hpr : progS (mkC 10 (nwL nb (l.take k)) r' bp 0) 0 (k : Int) X = (mkC 10 (nwL nb (l.take (k + 1))) r' (wrap64 (bp + 1)) 0, 0) := by
                have hlk : (lay (l.take k)).length = k := by rw [lay_len, List.length_take]; have := HK.out; omega
                have h_ := prog_mk (p := 10) (L := nwL nb (l.take k)) r' bp 0 (i := 0) (B := lay (l.take k)) X rfl (by rw [hlk]; have := HKL.out; have := HL.out; omega) (by decide) HXF.out.1 HXF.out.2
                rw [hlk] at h_
                refine h_.trans ?_
                have h2_ : (nwL nb (l.take k)).set 0 (lay (l.take k) ++ [X]) = nwL nb (l.take (k + 1)) := by
                  rw [take_snoc2 l k x HX.out]
                  unfold nwL
                  rw [lay_snoc, HXL.out]
                  rfl
                rw [h2_]
              have HPR := Aside0.mk hpr
              clear hpr
              go_wp2_with fail
              refine (programH HCH.out 0 (k : Int) A11 c11 X HC11.out HZ11.out HA11.out).mono ?_
              rintro ev w12 ⟨rfl, S12, hh12, hn12⟩
              rw [HPR.out] at hh12 ⊢
              have HH12 := Aside0.mk hh12
              have HB12 := Aside0.mk (HS11.out.below.trans hn12.bel)
              have hx1 := pw_cell_below (below_step HB1.out HB12.out) HX1.out
              have HSQ : Aside0 ((if seqM (l.take k) < x.f1 then x.f1 else seqM (l.take k)) = seqM (l.take (k + 1))) := ⟨by rw [take_snoc2 l k x HX.out, seqM_snoc]⟩
              clear hh12 hn12 HS11 HCH HA11 HC11 HZ11
              go_wp2_with fail
              have hm_ : l.length - ((k + 1 : Nat) : Int).toNat < l.length - ((k : Nat) : Int).toNat := by
                rw [Int.toNat_natCast, Int.toNat_natCast]
                exact Nat.sub_lt_sub_left HKL.out (Nat.lt_succ_self k)
              refine ⟨⟨k + 1, r', wrap64 (bp + 1), S12, HKL.out, by rw [HSQ.out], by rw [hw4], ⟨by have := HR6.out; have := HR.out; omega⟩, HH12, ⟨fun y hy => ?_⟩, HB12⟩, by rw [hw4]; exact hm_⟩
              rw [take_snoc2 l k x HX.out] at hy
              rcases List.mem_append.1 hy with hy | hy
              · exact HG.out y hy
              · rw [List.mem_singleton.1 hy]
                exact HGX.out
            · rw [if_neg hmy] at hkk
              have HKK := Aside0.mk hkk
              clear hmy hkk
              refine (potsherdref3_SheetBytes.calls kk x.f0 x.f1 A5 c5 x.f2 [] 1 w10 (Kd.C_below HC5.out HBW.out) HLE5.out HKK.out).mono ?_
              rintro ev w11 ⟨v, rfl, hR11, hb11⟩
              have HBX := Aside0.mk (below_step HBW.out hb11)
              clear hR11 hb11 x0 x1 x2
              go_wp2_with fail
              refine (awake11 w11).mono ?_
              rintro ev w12 ⟨rfl, hb12⟩
              have HBF := Aside0.mk (below_step HBX.out hb12)
              clear hb12
              go_wp2_with fail
              go_ret
              exact ⟨rfl, HBF.out⟩
          · have e0 : ((k : Int) == (l.length : Int)) = true := by rw [show k = l.length by have := HK.out; omega]; exact beq_self_eq_true _
            have e1 : (k == l.length) = true := by rw [show k = l.length by have := HK.out; omega]; exact beq_self_eq_true _
            have e2 : decide ((k : Int) = (l.length : Int)) = true := decide_eq_true (by have := HK.out; omega)
            have e3 : decide (k = l.length) = true := decide_eq_true (by have := HK.out; omega)
            clear hkl
            go_wp2_with fail
            clear hfld
            refine (awake11 w10).mono ?_
            rintro ev w11 ⟨rfl, hb11⟩
            have HBF := Aside0.mk (below_step (below_step HB1.out HS10.out.below) hb11)
            clear hb11
            go_wp2_with fail
            go_ret
            exact ⟨rfl, HBF.out⟩
        · have dk0 : ((k : Int) == 0) = false := by rw [beq_eq_false_iff_ne]; omega
          have dk1 : (k == 0) = false := by rw [beq_eq_false_iff_ne]; omega
          have dk2 : decide ((k : Int) = 0) = false := decide_eq_false (by omega)
          have dk3 : decide (k = 0) = false := decide_eq_false (by omega)
          clear h0
          go_wp2_with fail
          have hcb : Calls Try.prog 21 #[.pointer (some ⟨g, 0, none⟩)] w8 fun e w' => e = .returned (.agg #[.int .i64 r', .int .i64 bp, .int .i64 0]) ∧ Below w8.heap.size w8 w' := bill HS8.out.chip.chip
          refine hcb.mono ?_
          clear hcb
          rintro ev w10 ⟨rfl, hb_⟩
          have HS10 := Aside0.mk (HS8.out.step hb_)
          have hfld := fieldBL
          clear hb_ HS8
          rcases Nat.lt_or_ge k l.length with hkl | hkl
          · have e0 : ((k : Int) == (l.length : Int)) = false := by rw [beq_eq_false_iff_ne]; omega
            have e1 : (k == l.length) = false := by rw [beq_eq_false_iff_ne]; omega
            have e2 : decide ((k : Int) = (l.length : Int)) = false := decide_eq_false (by omega)
            have e3 : decide (k = l.length) = false := decide_eq_false (by omega)
            have e4 : decide ((k : Int) < (l.length : Int)) = true := decide_eq_true (by omega)
            have e5 : decide (k < l.length) = true := decide_eq_true hkl
            have e6 : (k : Int) < (l.length : Int) := by omega
            have HKL := Aside0.mk hkl
            have hw4 : wrap64 ((k : Int) + 1) = ((k + 1 : Nat) : Int) := by rw [show (k : Int) + 1 = ((k + 1 : Nat) : Int) by omega]; exact wrap_small _ (by omega) (by have := HL.out; omega)
            obtain ⟨x, hx⟩ : ∃ x, l[k]? = some x := ⟨_, List.getElem?_eq_getElem hkl⟩
            have hrd : rd_T28 l (k : Int) = x := by unfold rd_T28; rw [List.getD_eq_getElem?_getD, Int.toNat_natCast, hx]; rfl
            obtain ⟨ad, A5, c5, hA5, x0, x1, x2, hle5, hC5⟩ := at_T28 HC.out (k : Int) (by omega) e6
            have HBW := Aside0.mk (below_step HB1.out HS10.out.below)
            rw [hrd] at x0 x1 x2 hle5 hC5
            rw [Int.toNat_natCast] at x0 x1 x2
            have HX1 := Aside0.mk x1
            replace x0 := pw_cell_below HBW.out x0
            replace x1 := pw_cell_below HBW.out x1
            replace x2 := pw_cell_below HBW.out x2
            cases hA5
            have HX := Aside0.mk hx
            have HC5 := Aside0.mk hC5
            have HLE5 := Aside0.mk hle5
            have HXM : Aside0 (x ∈ l) := ⟨List.mem_of_getElem? hx⟩
            clear hkl hx hrd hC5 hle5
            go_wp2_with fail
            clear hfld
            obtain ⟨kk, hkk⟩ := (refBytes_ev x.f0 x.f1 x.f2).rounds
            unfold bytesL at hkk
            by_cases hmy : mayB x.f0 x.f1 x.f2 = true
            · rw [if_pos hmy] at hkk
              have HGX : Aside0 (GoodS x) := ⟨⟨hmy, HBY.out x HXM.out⟩⟩
              obtain ⟨X, hX⟩ : ∃ X, laidL x.f0 x.f1 x.f2 = X := ⟨_, rfl⟩
              rw [hX] at hkk
              have HXL := Aside0.mk hX
              have HXF : Aside0 (1 ≤ X.length ∧ X.length ≤ 2000) := ⟨by rw [← hX]; exact HGX.out.fine.2⟩
              have HKK := Aside0.mk hkk
              clear hmy hkk hX
              refine (potsherdref3_SheetBytes.calls kk x.f0 x.f1 A5 c5 x.f2 X 0 w10 (Kd.C_below HC5.out HBW.out) HLE5.out HKK.out).mono ?_
              rintro ev w11 ⟨v, rfl, hR11, hb11⟩
              obtain ⟨A11, c11, rfl, hz11, hC11⟩ := Kd.R_reads hR11
              have HS11 := Aside0.mk (HS10.out.step hb11)
              have hch : Hd w11 w1.heap.size S g (mkC 10 (nwL nb (l.take k)) r' bp 0) := HS11.out.chip
              have HCH := Aside0.mk hch
              have HA11 : Aside0 (∀ a_, A11 = some a_ → a_.block < w11.heap.size ∧ ¬ S a_.block) := ⟨fun a_ hA => by
                obtain ⟨q1, q2⟩ := R_at hR11 a_ hA
                refine ⟨q2, fun hs => ?_⟩
                have := HS10.out.chip.lt _ hs
                omega⟩
              have HC11 := Aside0.mk hC11
              have HZ11 := Aside0.mk hz11
              clear hch hR11 hb11 hz11 hC11 x0 x1 x2
              have hpr : progS (mkC 10 (nwL nb (l.take k)) r' bp 0) 0 (k : Int) X = (mkC 10 (nwL nb (l.take (k + 1))) r' (wrap64 (bp + 1)) 0, 0) := by
                have hlk : (lay (l.take k)).length = k := by rw [lay_len, List.length_take]; have := HK.out; omega
                have h_ := prog_mk (p := 10) (L := nwL nb (l.take k)) r' bp 0 (i := 0) (B := lay (l.take k)) X rfl (by rw [hlk]; have := HKL.out; have := HL.out; omega) (by decide) HXF.out.1 HXF.out.2
                rw [hlk] at h_
                refine h_.trans ?_
                have h2_ : (nwL nb (l.take k)).set 0 (lay (l.take k) ++ [X]) = nwL nb (l.take (k + 1)) := by
                  rw [take_snoc2 l k x HX.out]
                  unfold nwL
                  rw [lay_snoc, HXL.out]
                  rfl
                rw [h2_]
              have HPR := Aside0.mk hpr
              clear hpr
              go_wp2_with fail
              refine (programH HCH.out 0 (k : Int) A11 c11 X HC11.out HZ11.out HA11.out).mono ?_
              rintro ev w12 ⟨rfl, S12, hh12, hn12⟩
              rw [HPR.out] at hh12 ⊢
              have HH12 := Aside0.mk hh12
              have HB12 := Aside0.mk (HS11.out.below.trans hn12.bel)
              have hx1 := pw_cell_below (below_step HB1.out HB12.out) HX1.out
              have HSQ : Aside0 ((if seqM (l.take k) < x.f1 then x.f1 else seqM (l.take k)) = seqM (l.take (k + 1))) := ⟨by rw [take_snoc2 l k x HX.out, seqM_snoc]⟩
              clear hh12 hn12 HS11 HCH HA11 HC11 HZ11
              go_wp2_with fail
              have hm_ : l.length - ((k + 1 : Nat) : Int).toNat < l.length - ((k : Nat) : Int).toNat := by
                rw [Int.toNat_natCast, Int.toNat_natCast]
                exact Nat.sub_lt_sub_left HKL.out (Nat.lt_succ_self k)
              refine ⟨⟨k + 1, r', wrap64 (bp + 1), S12, HKL.out, by rw [HSQ.out], by rw [hw4], ⟨by have := HR6.out; have := HR.out; omega⟩, HH12, ⟨fun y hy => ?_⟩, HB12⟩, by rw [hw4]; exact hm_⟩
              rw [take_snoc2 l k x HX.out] at hy
              rcases List.mem_append.1 hy with hy | hy
              · exact HG.out y hy
              · rw [List.mem_singleton.1 hy]
                exact HGX.out
            · rw [if_neg hmy] at hkk
              have HKK := Aside0.mk hkk
              clear hmy hkk
              refine (potsherdref3_SheetBytes.calls kk x.f0 x.f1 A5 c5 x.f2 [] 1 w10 (Kd.C_below HC5.out HBW.out) HLE5.out HKK.out).mono ?_
              rintro ev w11 ⟨v, rfl, hR11, hb11⟩
              have HBX := Aside0.mk (below_step HBW.out hb11)
              clear hR11 hb11 x0 x1 x2
              go_wp2_with fail
              refine (awake11 w11).mono ?_
              rintro ev w12 ⟨rfl, hb12⟩
              have HBF := Aside0.mk (below_step HBX.out hb12)
              clear hb12
              go_wp2_with fail
              go_ret
              exact ⟨rfl, HBF.out⟩
          · have e0 : ((k : Int) == (l.length : Int)) = true := by rw [show k = l.length by have := HK.out; omega]; exact beq_self_eq_true _
            have e1 : (k == l.length) = true := by rw [show k = l.length by have := HK.out; omega]; exact beq_self_eq_true _
            have e2 : decide ((k : Int) = (l.length : Int)) = true := decide_eq_true (by have := HK.out; omega)
            have e3 : decide (k = l.length) = true := decide_eq_true (by have := HK.out; omega)
            clear hkl
            go_wp2_with fail
            clear hfld
            refine (awake11 w10).mono ?_
            rintro ev w11 ⟨rfl, hb11⟩
            have HBF := Aside0.mk (below_step (below_step HB1.out HS10.out.below) hb11)
            clear hb11
            go_wp2_with fail
            go_ret
            exact ⟨rfl, HBF.out⟩
      · have hk' : k' = P + n := by rw [hk2]; split <;> omega
        have HKE := Aside0.mk hk'
        have hdf : decide (N * 10 ≤ k') = false := decide_eq_false (by omega)
        have HDF := Aside0.mk hdf
        have HDL : Aside0 (P + n < N * 10) := ⟨by omega⟩
        clear hk2 hd hk' hdf
        go_wp2_with fail
        refine (sd_step HSI.out HOK.out (by rw [HNL.out]; exact HN1.out.1) (by rw [HNL.out]; have := HN1.out.2; omega) (by decide) (by decide) n (by have := Hn1.out.1; omega) (by rw [HNL.out]; exact Nat.le_of_lt HI.out) k' (by rw [HNL.out]; exact HK1.out)).mono ?_
        rintro ev w6 ⟨rfl, hs6⟩
        rw [HNL.out, HDF.out]
        have HS6 : Aside0 (Sg w1 w6 w1.heap.size S g q (mkC 10 (nwL nb (l.take k)) r bp 0) (spots2 (nwL nb (l.take k)).length 10) ((i + 1) * n)) := ⟨by rw [HSP.out, ← HKE.out]; exact hs6⟩
        clear hs6 HSI
        go_wp2_with fail
        go_roundw
        case measure => first | exact HMS.out | (rw [hw3]; exact HMS.out)
        case rel => exact ⟨i + 1, by first | rw [hw3] | rfl, ⟨by rw [HSP.out]; exact HDL.out⟩, HS6⟩
theorem newFinal (W : World) (A0 : Option Addr) (c0 : Nat) (l0 : List S28) (hc0 : l0.length ≤ c0) (hr0 : k28.C W A0 l0.length l0) (hm0 : l0.length ≤ maxLen) (hok0 : ∀ x ∈ l0, (Lit.int .i64 x.f0).wf = true ∧ (Lit.int .i64 x.f1).wf = true ∧ (x.f2.length ≤ maxLen ∧ ∀ y ∈ x.f2, (Lit.int .u8 y).wf = true)) (a1 : Int) (w1 : (Lit.int .i64 a1).wf = true) (a2 : Int) (w2 : (Lit.int .i64 a2).wf = true) :
    Calls Try.prog 6 #[.slice A0 l0.length c0, .int .i64 a1, .int .i64 a2] W fun e w' => e = .returned (.bool true) ∧ Below W.heap.size W w' := by
  by_cases h : l0.length ≤ 10
  · cases hlt : l0.all ltB with
    | true =>
      obtain ⟨nb, hb1, hb2⟩ := smallW a1 6 (by omega) (by omega)
      obtain ⟨nn, hn1, hn2⟩ := smallW a2 30 (by omega) (by omega)
      exact newWalk a1 a2 hr0 hc0 h hlt (fun x hx => Go.Proofs.Ytkncmbbkehnagaa.Bd.bytes_of (hok0 x hx).2.2.2) (nb + 1) (nn + 1) (by rw [hb1]; unfold wrap64; omega) (by omega) (by rw [hn1]; unfold wrap64; omega) (by omega)
    | false => exact newNot a1 a2 hr0 (.inr ⟨h, hlt⟩)
  · exact newNot a1 a2 hr0 (.inl (by omega))
end Go.Proofs.Ytkncmbbkehnagaa.Cm

