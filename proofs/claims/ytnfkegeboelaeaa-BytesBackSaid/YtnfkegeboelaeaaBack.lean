import Derived.Test.YtnfkegeboelaeaaBackP
import Derived.Test.YtnfkegeboelaeaaSt
import Derived.Test.YtnfkegeboelaeaaBounds
import Derived.Deep.RegionWith
import Derived.Deep.DeepCutAuto
import Derived.Deep.QuietTactic
import Derived.BigQuiet
import Derived.Deep.RegionHeld3
import Derived.Deep.Light
set_option linter.unusedVariables false
set_option linter.unusedSimpArgs false
/-! BytesBack: the walk. -/
namespace Go.Proofs.Ytnfkegeboelaeaa.Back
open Go.RowKit Go.Proofs.YtnfkegeboelaeaaW.PrintWords Go.Proofs.YtnfkegeboelaeaaW.PrintLast Go.Proofs.YtnfkegeboelaeaaW.PrintMore Go.Proofs.Ytnfkegeboelaeaa.PAll Go.Proofs.Ytnfkegeboelaeaa.Rdr Go.Proofs.Ytnfkegeboelaeaa.Aw Go.Proofs.Ytnfkegeboelaeaa.St Go.Proofs.Ytnfkegeboelaeaa.Pl1 Go.Proofs.Ytnfkegeboelaeaa.Pl2 Go.Proofs.Ytnfkegeboelaeaa.Bounds
attribute [local go_sem] max2_int min2_int max_two min_two max_three min_three max_four min_four

set_option maxHeartbeats 8000000 in
set_option maxRecDepth 100000 in
theorem walk (W : World) (A0 : Option Addr) (c0 : Nat) (n : List Int) (A1 : Option Addr) (c1 : Nat) (s : List (List Int)) (a2 : Int) (h0 : n.length ≤ 30) (h1 : s.length ≤ 30) (hr0 : Kd.C (Kd.int .i64) W A0 n.length n) (hr1 : Kd.C (Kd.slice 5 (Kd.int .u8)) W A1 s.length s) (hs : ∀ t ∈ s, Bytes t) :
    Calls Try.prog 5 #[.slice A0 n.length c0, .slice A1 s.length c1, .int .i64 a2] W fun e w' => e = .returned (.bool true) ∧ Below W.heap.size W w' := by
  have g1 : ¬ ((n.length : Int) > 30) := by omega
  have g2 : ¬ ((s.length : Int) > 30) := by omega
  have HR0 := Aside0.mk hr0
  have HR1 := Aside0.mk hr1
  have HS := Aside0.mk hs
  have HN0 := Aside0.mk h0
  have HN1 := Aside0.mk h1
  clear hr0 hr1 hs h0 h1
  go_enter Try.func5, Try.ntmps5
  go_wp2_with fail
  go_loopw [7, 8, 31] (fun v7 v8 v31 wr => ∃ j : Nat, j ≤ n.length ∧ v31 = .int .i64 (j : Int) ∧ Aside0 (Kd.R (Kd.int .u8) 5 wr W.heap.size (fun k_ => True ∧ some k_ ≠ (v8 : Value).ownBlock) v7 (nums ((wants n).take j))) ∧ Aside0 (Kd.R (Kd.int .i64) 3 wr W.heap.size (fun _ => True) v8 (ints ((wants n).take j))) ∧ Aside0 (Below W.heap.size W wr)) (fun _ _ v31 _ => n.length - (intOf v31).toNat)
  case atStart => exact ⟨0, Nat.zero_le _, rfl, ⟨by simpa [nums] using Kd.R_nil _ _ _ _ _⟩, ⟨by simpa [ints] using Kd.R_nil _ _ _ _ _⟩, ⟨Below.refl _ _⟩⟩
  case round =>
    obtain ⟨j, hj, rfl, HB7, HR8, HB⟩ := hrel
    by_cases hlt : j < n.length
    · obtain ⟨ad, e1, hx⟩ := int_at HR0.out j hlt
      cases e1
      replace hx := pw_cell_below HB.out hx
      obtain ⟨q1, q2⟩ := red_eq (n.getD j 0)
      obtain ⟨x, hxe⟩ : ∃ x, n.getD j 0 = x := ⟨_, rfl⟩
      have HT1 := Aside0.mk (ints_take n j hlt)
      have HT2 := Aside0.mk (show nums ((wants n).take (j + 1)) = nums ((wants n).take j) ++ code (red (n.getD j 0)) by rw [nums_take _ _ (by simpa [wants] using hlt), wants_get n j hlt])
      rw [hxe] at hx q1 q2 HT1 HT2
      have HQ2 := Aside0.mk q2
      have hw2 : wrap64 ((j : Int) + 1) = ((j + 1 : Nat) : Int) := by have := HN0.out; unfold wrap64; omega
      have HLn := Aside0.mk (show (nums ((wants n).take j)).length ≤ 100000 by
        have h1 := nums_len ((wants n).take j) (fun y hy => wants_small n y (List.mem_of_mem_take hy))
        have h2 : ((wants n).take j).length ≤ n.length := by rw [List.length_take]; simp [wants]; omega
        have := HN0.out
        omega)
      have HLi := Aside0.mk (show (ints ((wants n).take j)).length ≤ 30 by
        have := HN0.out
        simp [ints, wants]; omega)
      obtain ⟨A7, c7, rfl, hz7, hC7⟩ := Kd.R_reads HB7.out
      have HZ7 := Aside0.mk hz7
      clear hxe q2 hz7 hC7
      go_wp2_with (first | ((with_reducible refine gate_builtin (b := .append) (xs := #[.tmp 39, .tmp 41]) rfl ?_); at_builtin; refine Kd.R_append (Kd.int .i64) (w0 := W) W.heap.size rfl (.tmp 39) (.tmp 41) 41 3 (.int .i64 0) 8 rfl Try.underlying41 info3 rfl (by decide) (by omega) _ (ints ((wants n).take j)) ((red x : Nat) : Int) [.int .i64 ((red x : Nat) : Int)] (fun _ => True) (fun _ => False) rfl rfl rfl (fun _ hk => hk.elim) (fun _ _ => trivial) HR8.out HB.out HB.out.size ?aL ?_; (case aL => have := HLi.out; omega); intro v1 w1 ho hb1 hg1 hat1; have HO := Aside0.mk ho; have HBa := Aside0.mk hb1; have HBr := Aside0.mk (Kd.R_after HB7.out hg1 hat1); clear ho hb1 hg1 hat1))
      obtain ⟨-, hz, hC⟩ := Kd.R_reads' HBr.out
      refine (numberR A7 c7 _ (red x) w1 HLn.out HQ2.out hC hz).mono ?_
      rintro e w2 ⟨v, rfl, hR, hb⟩
      have HR7 := Aside0.mk (Kd.R_lower (Kd.R_mono hR (fun k_ hk => ⟨trivial, fun he => by have h1 := Kd.R_lt HO.out k_ he.symm; have h2 : w1.heap.size ≤ k_ := hk; omega⟩) : Kd.R (Kd.int .u8) 5 w2 w1.heap.size (fun k_ => True ∧ some k_ ≠ v1.ownBlock) v _) HBa.out.size)
      have HO2 := Aside0.mk (Kd.R_below HO.out hb)
      have HB2 := Aside0.mk (below_weaken HBa.out HBa.out.size hb)
      clear hR hb hz hC
      go_wp2
      go_roundw
      case measure => simp only [intOf]; omega
      case rel => exact ⟨j + 1, by omega, by first | rfl | rw [hw2], ⟨by rw [HT2.out]; exact HR7.out⟩, ⟨by rw [HT1.out]; exact HO2.out⟩, HB2⟩
    · have he : j = n.length := by omega
      subst he
      have hnl : ¬ (((n.length : Nat) : Int) < (n.length : Int)) := by omega
      have hfull : (wants n).take n.length = wants n := List.take_of_length_le (by simp [wants])
      rw [hfull] at HB7 HR8
      obtain ⟨A7, c7, rfl, hz7, hC7⟩ := Kd.R_reads HB7.out
      obtain ⟨A8, c8, rfl, hz8, hC8⟩ := Kd.R_reads HR8.out
      obtain ⟨wn, hwn⟩ : ∃ wn, wants n = wn := ⟨_, rfl⟩
      have HWS := Aside0.mk (show ∀ x ∈ wn, x ≤ 1099511627776 by rw [← hwn]; exact wants_small n)
      have HWL := Aside0.mk (show wn.length ≤ 30 by rw [← hwn]; have := HN0.out; simpa [wants] using this)
      rw [hwn] at hz7 hC7 hz8 hC8 ⊢
      have HZ7 := Aside0.mk hz7
      have HC7 := Aside0.mk hC7
      have HC8 := Aside0.mk hC8
      clear hfull hwn hz7 hC7 hz8 hC8 HB7 HR8
      have hil : (ints wn).length = wn.length := by simp [ints]
      have HIL := Aside0.mk hil
      rw [hil] at HC8 ⊢
      clear hil
      go_wp2_with fail
      generalize wr = u0 at *
      go_loopw [7, 49] (fun v7 v49 wr => ∃ (j : Nat) (A : Option Addr) (c : Nat), j ≤ s.length ∧ v49 = .int .i64 (j : Int) ∧ v7 = .slice A (nums wn ++ texts (s.take j)).length c ∧ Aside0 ((nums wn ++ texts (s.take j)).length ≤ c) ∧ Aside0 (Kd.C (Kd.int .u8) wr A (nums wn ++ texts (s.take j)).length (nums wn ++ texts (s.take j))) ∧ Aside0 (∀ t ∈ s.take j, t.length ≤ 300) ∧ Aside0 (Below u0.heap.size u0 wr)) (fun _ v49 _ => s.length - (intOf v49).toNat)
      case atStart => exact ⟨0, A7, c7, Nat.zero_le _, rfl, by simp [texts], by simpa [texts] using HZ7, by simpa [texts] using HC7, ⟨fun t ht => by simp at ht⟩, ⟨Below.refl _ _⟩⟩
      case round =>
        clear HZ7 HC7
        obtain ⟨j, Ab, cb, hj, rfl, rfl, HZ, HCb, HT, HBu⟩ := hrel
        by_cases hlt : j < s.length
        · obtain ⟨ad1, At, ct, e1, hx, hlc, hi⟩ := at_L1 HR1.out (j : Int) (by omega) (by omega)
          cases e1
          have hbel := below_step HB.out HBu.out
          replace hx := pw_cell_below hbel hx
          have HI := Aside0.mk (Kd.C_below hi hbel)
          have h4 : rd_L1 s (j : Int) = s.getD j [] := by simp [rd_L1]
          have HX1 := Aside0.mk (show nums wn ++ texts (s.take (j + 1)) = (nums wn ++ texts (s.take j)) ++ (code (s.getD j []).length ++ s.getD j []) by rw [texts_take s j hlt, List.append_assoc])
          have HX2 := Aside0.mk (show ∀ t ∈ s.take (j + 1), t ∈ s.take j ∨ t = s.getD j [] from fun t ht => by
            rw [List.take_succ_eq_append_getElem hlt] at ht
            rcases List.mem_append.1 ht with h | h
            · exact .inl h
            · right; rw [List.mem_singleton] at h; rw [h, List.getD_eq_getElem?_getD, List.getElem?_eq_getElem hlt]; rfl)
          have HLb := Aside0.mk (show (nums wn ++ texts (s.take j)).length ≤ 100000 by
            have h1 := nums_len wn HWS.out
            have h2 := texts_len (s.take j) HT.out
            have h3 := HWL.out
            have h5 : (s.take j).length ≤ s.length := by rw [List.length_take]; omega
            have := HN1.out
            rw [List.length_append]
            omega)
          rw [h4] at hx HI
          simp only [Int.toNat_natCast] at hx
          have HLC := Aside0.mk hlc
          have hw2 : wrap64 ((j : Int) + 1) = ((j + 1 : Nat) : Int) := by have := HN1.out; unfold wrap64; omega
          rw [h4] at HLC
          obtain ⟨t, ht⟩ : ∃ t, s.getD j [] = t := ⟨_, rfl⟩
          rw [ht] at hx HI HX1 HX2 HLC
          obtain ⟨L, hL⟩ : ∃ L, nums wn ++ texts (s.take j) = L := ⟨_, rfl⟩
          rw [hL] at HZ HCb HLb HX1 ⊢
          clear hi hlc h4 ht hbel hL
          by_cases hlong : 300 < t.length
          · have k1 : ((t.length : Int) > 300) := by omega
            clear hlong
            go_wp2_with (go_at_call 9; refine (Aw.awake _).mono ?_; rintro ev w5 ⟨rfl, hb⟩; have HB5 := Aside0.mk (below_step (below_step HB.out HBu.out) hb); clear hb)
            go_ret
            exact ⟨rfl, HB5.out⟩
          · have k1 : ¬ ((t.length : Int) > 300) := by omega
            have HK1 := Aside0.mk (show t.length ≤ 300 by omega)
            clear hlong
            go_wp2_with fail
            refine (textC' Ab cb L At ct t _ HLb.out (by have := HK1.out; omega) HCb.out HZ.out HI.out HLC.out).mono ?_
            rintro ev w5 ⟨A5, c5, rfl, hz, hC, hb⟩
            have HZ5 := Aside0.mk hz
            have HC5 := Aside0.mk hC
            have HB5 := Aside0.mk (below_step HBu.out hb)
            clear hz hC hb
            obtain ⟨L', hL'⟩ : ∃ L', L ++ (code t.length ++ t) = L' := ⟨_, rfl⟩
            rw [hL'] at HZ5 HC5 HX1 ⊢
            go_wp2
            go_roundw
            case measure => simp only [intOf]; omega
            case rel => exact ⟨j + 1, A5, c5, by omega, by first | rfl | rw [hw2], by rw [HX1.out], by rw [HX1.out]; exact HZ5, by rw [HX1.out]; exact HC5, ⟨fun q hq => by rcases HX2.out q hq with h | h; exact HT.out q h; rw [h]; exact HK1.out⟩, HB5⟩
        · have he : j = s.length := by omega
          subst he
          have hnl2 : ¬ (((s.length : Nat) : Int) < (s.length : Int)) := by omega
          rw [List.take_length] at HZ HCb HT ⊢
          obtain ⟨B, hBe⟩ : ∃ B, nums wn ++ texts s = B := ⟨_, rfl⟩
          have HBE := Aside0.mk hBe
          have HFB : Aside0 (Fine B) := ⟨by
            rw [← hBe]
            refine ⟨(nums_bytes wn HWS.out).append (texts_bytes s (fun t ht => ⟨HT.out t ht, HS.out t ht⟩)), ?_⟩
            have h1 := nums_len wn HWS.out
            have h2 := texts_len s HT.out
            have h3 := HWL.out
            have := HN1.out
            rw [List.length_append]
            omega⟩
          rw [hBe] at HZ HCb ⊢
          clear hBe
          go_wp2_with fail
          refine (newReader _ Ab cb B HCb.out HZ.out HFB.out.2).mono ?_
          rintro ev w1 ⟨g, u, rfl, hI, hb, hB⟩
          have HI1 := Aside0.mk hI
          have HB1 := Aside0.mk hB
          have HWu := Aside0.mk (below_step (below_step HB.out HBu.out) hb)
          have HCB := Aside0.mk (Kd.C_below HCb.out hb)
          have HCW := Aside0.mk (Kd.C_below HC8.out (below_step HBu.out hb))
          clear hI hb hB HCb
          go_wp2_with fail
          go_loopw [65] (fun v65 wr => ∃ j : Nat, j ≤ wn.length ∧ v65 = .int .i64 (j : Int) ∧ Aside0 (IsRd 53 u wr g (nums (wn.drop j) ++ texts s) 0) ∧ Aside0 (Below u.heap.size u wr)) (fun v65 _ => wn.length - (intOf v65).toNat)
          case atStart => exact ⟨0, Nat.zero_le _, rfl, ⟨by rw [List.drop_zero, HBE.out]; exact HI1.out⟩, HB1⟩
          case round =>
            clear HI1 HB1
            obtain ⟨j, hj, rfl, HI, HBr⟩ := hrel
            by_cases hlt3 : j < wn.length
            · obtain ⟨ad8, e8, hx⟩ := int_at HCW.out j hlt3
              cases e8
              replace hx := pw_cell_below HBr.out hx
              have hxe : (ints wn).getD j 0 = ((wn.getD j 0 : Nat) : Int) := by
                simp [ints, List.getD_eq_getElem?_getD, List.getElem?_eq_getElem hlt3]
              have hxs : wn.getD j 0 ≤ 1099511627776 := by
                rw [List.getD_eq_getElem?_getD, List.getElem?_eq_getElem hlt3]
                exact HWS.out _ (List.getElem_mem hlt3)
              have hD : nums (wn.drop j) ++ texts s = code (wn.getD j 0) ++ (nums (wn.drop (j + 1)) ++ texts s) := by rw [nums_drop wn j hlt3, List.append_assoc]
              have hBD : B = nums (wn.take j) ++ (nums (wn.drop j) ++ texts s) := by rw [← HBE.out, ← List.append_assoc, ← nums_append, List.take_append_drop]
              rw [hxe] at hx
              obtain ⟨x, hx0⟩ : ∃ x, wn.getD j 0 = x := ⟨_, rfl⟩
              rw [hx0] at hx hxs hD
              obtain ⟨D', hD'⟩ : ∃ D', nums (wn.drop (j + 1)) ++ texts s = D' := ⟨_, rfl⟩
              have HD' := Aside0.mk hD'
              rw [hD'] at hD
              obtain ⟨D, hD0⟩ : ∃ D, nums (wn.drop j) ++ texts s = D := ⟨_, rfl⟩
              rw [hD0] at hD hBD HI
              have hcl := code_len x hxs
              have hln : D.length = (code x).length + D'.length := by rw [hD, List.length_append]
              have hlB : B.length = (nums (wn.take j)).length + D.length := by rw [hBD, List.length_append]
              have hBl := HFB.out.2
              have HFD : Aside0 (Fine D) := ⟨by
                have h1 : D = B.drop (nums (wn.take j)).length := by rw [hBD, List.drop_left]
                rw [h1]; exact HFB.out.drop _⟩
              have HST : Aside0 (numStep D 0 1099511627776 = ((x : Int), D', 0)) := ⟨by rw [hD]; exact num_code x hxs D'⟩
              obtain ⟨lo, hlo⟩ : ∃ lo, (nums (wn.take j)).length = lo := ⟨_, rfl⟩
              rw [hlo] at hlB
              obtain ⟨kx, hkx⟩ : ∃ kx, (code x).length = kx := ⟨_, rfl⟩
              have hmidE : (B.take (lo + kx)).drop lo = code x := by
                rw [hBD, hD, ← hlo, ← hkx, ← List.append_assoc, show (nums (wn.take j)).length + (code x).length = (nums (wn.take j) ++ code x).length by rw [List.length_append], List.take_left, List.drop_left]
              rw [hkx] at hcl hln
              obtain ⟨e1, e2, e3, k1, k2, k3, k4, m1, m2⟩ := sums hln hlB hcl hBl
              have HSU := Aside0.mk (sums2 hln hlB hcl hBl)
              obtain ⟨A', c', hmid, hCm, -⟩ := mid_rd (lo := (lo : Int)) (hi := ((lo + kx : Nat) : Int)) HCB.out HZ.out (Int.natCast_nonneg _) m1 m2
              clear m1 m2
              rw [Int.toNat_natCast, Int.toNat_natCast, hmidE] at hmid hCm
              have HCm := Aside0.mk hCm
              have HXS := Aside0.mk hxs
              have hw2 : wrap64 ((j : Int) + 1) = ((j + 1 : Nat) : Int) := by have := HWL.out; unfold wrap64; omega
              clear hCm hxs hmidE hkx hlo hBl hlB hln hcl hD0 hD' hx0 hBD hD hxe
              go_upto_region 27 with (first | (go_at_call 15; have hcc := own_numberE HST.out HI2.out HB2.out HFD.out; refine hcc.mono ?_; clear hcc; rintro ev w3 ⟨rfl, hI, hB, -⟩; have HI3 := Aside0.mk hI; have HB3 := Aside0.mk hB; clear hI hB) | (go_at_call 19; have hcc := Rdr.left u _ g D' 0 HI3.out; refine hcc.mono ?_; clear hcc; rintro ev w4 ⟨rfl, hb⟩; have HI4 := Aside0.mk (HI3.out.below hb); have HB4 := Aside0.mk (below_weaken HB3.out HB3.out.size hb); clear hb) | (go_at_call 19; have hcc := Rdr.left u _ g D 0 HI.out; refine hcc.mono ?_; clear hcc; rintro ev w2 ⟨rfl, hb⟩; have HI2 := Aside0.mk (HI.out.below hb); have HB2 := Aside0.mk (below_weaken HBr.out HBr.out.size hb); clear hb))
              obtain ⟨kk, hkk⟩ : ∃ kk, bytes_Number.f kk [] (x : Int) = some (code x) := by
                obtain ⟨kk, h⟩ := (number_ev [] (by simp) (x : Int)).rounds
                rw [clamp_of x HXS.out, List.nil_append] at h
                exact ⟨kk, h⟩
              have HKK := Aside0.mk hkk
              obtain ⟨cx, hcx⟩ : ∃ cx, code x = cx := ⟨_, rfl⟩
              rw [hcx] at HKK HCm hmid
              obtain ⟨sx, hsx⟩ : ∃ sx, strOfNums cx = sx := ⟨_, rfl⟩
              have HSX := Aside0.mk hsx
              clear hkk hcx hsx
              simp only [e1]
              go_cut [114] (fun v114 wx => v114 = .bool false ∧ Aside0 (Below w4.heap.size w4 wx))
              case first =>
                obtain ⟨e4, i4, i1, d1, d2, d3, d4, d7, d8, d9, d10⟩ := HSU.out
                have hmid2 := hmid
                rw [Int.natCast_add] at hmid2
                have hv2 := conv (c := c') (Kd.C_below HCm.out HB4.out) HSX.out
                have hv2d := conv (c := c') (Kd.C_drew (Kd.C_below HCm.out HB4.out)) HSX.out
                refine wp_region_noPanic ?_
                refine wp_region_held_drew (S := fun W => (convert 22 9 (.slice A' cx.length c')).run Try.prog W = .ok (.string sx) W) (by kernel_rfl) ?_ (fun hHeld => ?_)
                next => exact hv2d
                refine wpAnyH_take (i := 0) (oi := { dst := some 79, op := Op.move (Operand.tmp 17), type := 3, pos := "law.go:73", after := #[], guard := none }) (v := ?tkv0) rfl (by kernel_rfl) (by kernel_rfl) (by kernel_rfl) (fun _ _ _ h => h) (Or.inl ⟨by rfl, ?tky0⟩) (by assumption) ?tkr0
                case tky0 => (intro w hSw; go_simp; first | done | with_reducible rfl)
                simp only [Act.put, List.setIfInBounds_toArray, List.set_cons_zero, List.set_cons_succ]
                refine wpAnyH_take (i := 1) (oi := { dst := some 80, op := Op.binOp BinOp.lss 3 (Operand.tmp 79) (Operand.const (Value.int IntKind.i64 1)) 3, type := 4, pos := "law.go:73", after := #[{ on := 0, ground := Ground.data }], guard := none }) (v := ?tkv1) rfl (by kernel_rfl) (by kernel_rfl) (by kernel_rfl) (fun _ _ _ h => h) (Or.inl ⟨by rfl, ?tky1⟩) (by assumption) ?tkr1
                case tky1 => (intro w hSw; go_simp; first | done | with_reducible rfl)
                simp only [Act.put, List.setIfInBounds_toArray, List.set_cons_zero, List.set_cons_succ]
                refine wpAnyH_take (i := 2) (oi := { dst := some 81, op := Op.move (Operand.tmp 80), type := 4, pos := "law.go:73", after := #[{ on := 1, ground := Ground.data }], guard := none }) (v := ?tkv2) rfl (by kernel_rfl) (by kernel_rfl) (by kernel_rfl) (fun _ _ _ h => h) (Or.inl ⟨by rfl, ?tky2⟩) (by assumption) ?tkr2
                case tky2 => (intro w hSw; go_simp; first | done | with_reducible rfl)
                simp only [Act.put, List.setIfInBounds_toArray, List.set_cons_zero, List.set_cons_succ]
                refine wpAnyH_take (i := 3) (oi := { dst := some 82, op := Op.move (Operand.tmp 17), type := 3, pos := "law.go:73", after := #[{ on := 2, ground := Ground.guard }], guard := some (2, false) }) (v := ?tkv3) rfl (by kernel_rfl) (by kernel_rfl) (by kernel_rfl) (fun _ _ _ h => h) (Or.inl ⟨by rfl, ?tky3⟩) (by assumption) ?tkr3
                case tky3 => (intro w hSw; go_simp; first | done | with_reducible rfl)
                simp only [Act.put, List.setIfInBounds_toArray, List.set_cons_zero, List.set_cons_succ]
                refine wpAnyH_take (i := 4) (oi := { dst := some 83, op := Op.binOp BinOp.gtr 3 (Operand.tmp 82) (Operand.const (Value.int IntKind.i64 6)) 3, type := 4, pos := "law.go:73", after := #[{ on := 3, ground := Ground.data }, { on := 2, ground := Ground.guard }], guard := some (2, false) }) (v := ?tkv4) rfl (by kernel_rfl) (by kernel_rfl) (by kernel_rfl) (fun _ _ _ h => h) (Or.inl ⟨by rfl, ?tky4⟩) (by assumption) ?tkr4
                case tky4 => (intro w hSw; go_simp; first | done | with_reducible rfl)
                simp only [Act.put, List.setIfInBounds_toArray, List.set_cons_zero, List.set_cons_succ]
                refine wpAnyH_take (i := 5) (oi := { dst := some 84, op := Op.pick (Operand.tmp 81) (Operand.const (Value.bool true)) (Operand.tmp 83), type := 4, pos := "law.go:73", after := #[{ on := 2, ground := Ground.data }, { on := 4, ground := Ground.data }], guard := none }) (v := ?tkv5) rfl (by kernel_rfl) (by kernel_rfl) (by kernel_rfl) (fun _ _ _ h => h) (Or.inl ⟨by rfl, ?tky5⟩) (by assumption) ?tkr5
                case tky5 => (intro w hSw; go_simp; first | done | with_reducible rfl)
                simp only [Act.put, List.setIfInBounds_toArray, List.set_cons_zero, List.set_cons_succ]
                refine wpAnyH_take (i := 6) (oi := { dst := some 85, op := Op.move (Operand.tmp 84), type := 4, pos := "law.go:73", after := #[{ on := 5, ground := Ground.data }, { on := 2, ground := Ground.chain }], guard := none }) (v := ?tkv6) rfl (by kernel_rfl) (by kernel_rfl) (by kernel_rfl) (fun _ _ _ h => h) (Or.inl ⟨by rfl, ?tky6⟩) (by assumption) ?tkr6
                case tky6 => (intro w hSw; go_simp; first | done | with_reducible rfl)
                simp only [Act.put, List.setIfInBounds_toArray, List.set_cons_zero, List.set_cons_succ]
                refine wpAnyH_take (i := 7) (oi := { dst := some 86, op := Op.move (Operand.tmp 16), type := 3, pos := "law.go:73", after := #[{ on := 6, ground := Ground.guard }], guard := some (6, false) }) (v := ?tkv7) rfl (by kernel_rfl) (by kernel_rfl) (by kernel_rfl) (fun _ _ _ h => h) (Or.inl ⟨by rfl, ?tky7⟩) (by assumption) ?tkr7
                case tky7 => (intro w hSw; go_simp; first | done | with_reducible rfl)
                simp only [Act.put, List.setIfInBounds_toArray, List.set_cons_zero, List.set_cons_succ]
                refine wpAnyH_take (i := 8) (oi := { dst := some 87, op := Op.move (Operand.tmp 7), type := 22, pos := "law.go:73", after := #[{ on := 6, ground := Ground.guard }], guard := some (6, false) }) (v := ?tkv8) rfl (by kernel_rfl) (by kernel_rfl) (by kernel_rfl) (fun _ _ _ h => h) (Or.inl ⟨by rfl, ?tky8⟩) (by assumption) ?tkr8
                case tky8 => (intro w hSw; go_simp; first | done | with_reducible rfl)
                simp only [Act.put, List.setIfInBounds_toArray, List.set_cons_zero, List.set_cons_succ]
                refine wpAnyH_take (i := 9) (oi := { dst := some 88, op := Op.call { callee := Callee.builtin Builtin.len, args := #[Operand.tmp 87], argTypes := #[22] }, type := 3, pos := "law.go:73", after := #[{ on := 8, ground := Ground.data }, { on := 6, ground := Ground.guard }], guard := some (6, false) }) (v := ?tkv9) rfl (by kernel_rfl) (by kernel_rfl) (by kernel_rfl) (fun _ _ _ h => h) (Or.inl ⟨by rfl, ?tky9⟩) (by assumption) ?tkr9
                case tky9 => (intro w hSw; go_simp; first | done | with_reducible rfl)
                simp only [Act.put, List.setIfInBounds_toArray, List.set_cons_zero, List.set_cons_succ]
                refine wpAnyH_take (i := 10) (oi := { dst := some 89, op := Op.binOp BinOp.gtr 3 (Operand.tmp 86) (Operand.tmp 88) 3, type := 4, pos := "law.go:73", after := #[{ on := 7, ground := Ground.data }, { on := 9, ground := Ground.data }, { on := 6, ground := Ground.guard }], guard := some (6, false) }) (v := ?tkv10) rfl (by kernel_rfl) (by kernel_rfl) (by kernel_rfl) (fun _ _ _ h => h) (Or.inl ⟨by rfl, ?tky10⟩) (by assumption) ?tkr10
                case tky10 => (intro w hSw; go_simp; first | done | with_reducible rfl)
                simp only [Act.put, List.setIfInBounds_toArray, List.set_cons_zero, List.set_cons_succ]
                refine wpAnyH_take (i := 11) (oi := { dst := some 90, op := Op.pick (Operand.tmp 85) (Operand.const (Value.bool true)) (Operand.tmp 89), type := 4, pos := "law.go:73", after := #[{ on := 6, ground := Ground.data }, { on := 10, ground := Ground.data }], guard := none }) (v := ?tkv11) rfl (by kernel_rfl) (by kernel_rfl) (by kernel_rfl) (fun _ _ _ h => h) (Or.inl ⟨by rfl, ?tky11⟩) (by assumption) ?tkr11
                case tky11 => (intro w hSw; go_simp; first | done | with_reducible rfl)
                simp only [Act.put, List.setIfInBounds_toArray, List.set_cons_zero, List.set_cons_succ]
                refine wpAnyH_take (i := 12) (oi := { dst := some 91, op := Op.move (Operand.tmp 90), type := 4, pos := "law.go:73", after := #[{ on := 11, ground := Ground.data }, { on := 6, ground := Ground.chain }], guard := none }) (v := ?tkv12) rfl (by kernel_rfl) (by kernel_rfl) (by kernel_rfl) (fun _ _ _ h => h) (Or.inl ⟨by rfl, ?tky12⟩) (by assumption) ?tkr12
                case tky12 => (intro w hSw; go_simp; first | done | with_reducible rfl)
                simp only [Act.put, List.setIfInBounds_toArray, List.set_cons_zero, List.set_cons_succ]
                refine wpAnyH_take (i := 13) (oi := { dst := some 92, op := Op.move (Operand.tmp 16), type := 3, pos := "law.go:73", after := #[{ on := 12, ground := Ground.guard }], guard := some (12, false) }) (v := ?tkv13) rfl (by kernel_rfl) (by kernel_rfl) (by kernel_rfl) (fun _ _ _ h => h) (Or.inl ⟨by rfl, ?tky13⟩) (by assumption) ?tkr13
                case tky13 => (intro w hSw; go_simp; first | done | with_reducible rfl)
                simp only [Act.put, List.setIfInBounds_toArray, List.set_cons_zero, List.set_cons_succ]
                refine wpAnyH_take (i := 14) (oi := { dst := some 93, op := Op.move (Operand.tmp 17), type := 3, pos := "law.go:73", after := #[{ on := 12, ground := Ground.guard }], guard := some (12, false) }) (v := ?tkv14) rfl (by kernel_rfl) (by kernel_rfl) (by kernel_rfl) (fun _ _ _ h => h) (Or.inl ⟨by rfl, ?tky14⟩) (by assumption) ?tkr14
                case tky14 => (intro w hSw; go_simp; first | done | with_reducible rfl)
                simp only [Act.put, List.setIfInBounds_toArray, List.set_cons_zero, List.set_cons_succ]
                refine wpAnyH_take (i := 15) (oi := { dst := some 94, op := Op.binOp BinOp.lss 3 (Operand.tmp 92) (Operand.tmp 93) 3, type := 4, pos := "law.go:73", after := #[{ on := 13, ground := Ground.data }, { on := 14, ground := Ground.data }, { on := 12, ground := Ground.guard }], guard := some (12, false) }) (v := ?tkv15) rfl (by kernel_rfl) (by kernel_rfl) (by kernel_rfl) (fun _ _ _ h => h) (Or.inl ⟨by rfl, ?tky15⟩) (by assumption) ?tkr15
                case tky15 => (intro w hSw; go_simp; first | done | with_reducible rfl)
                simp only [Act.put, List.setIfInBounds_toArray, List.set_cons_zero, List.set_cons_succ]
                refine wpAnyH_take (i := 16) (oi := { dst := some 95, op := Op.pick (Operand.tmp 91) (Operand.const (Value.bool true)) (Operand.tmp 94), type := 4, pos := "law.go:73", after := #[{ on := 12, ground := Ground.data }, { on := 15, ground := Ground.data }], guard := none }) (v := ?tkv16) rfl (by kernel_rfl) (by kernel_rfl) (by kernel_rfl) (fun _ _ _ h => h) (Or.inl ⟨by rfl, ?tky16⟩) (by assumption) ?tkr16
                case tky16 => (intro w hSw; go_simp; first | done | with_reducible rfl)
                simp only [Act.put, List.setIfInBounds_toArray, List.set_cons_zero, List.set_cons_succ]
                refine wpAnyH_take (i := 17) (oi := { dst := some 96, op := Op.move (Operand.tmp 95), type := 4, pos := "law.go:73", after := #[{ on := 16, ground := Ground.data }, { on := 12, ground := Ground.chain }], guard := none }) (v := ?tkv17) rfl (by kernel_rfl) (by kernel_rfl) (by kernel_rfl) (fun _ _ _ h => h) (Or.inl ⟨by rfl, ?tky17⟩) (by assumption) ?tkr17
                case tky17 => (intro w hSw; go_simp; first | done | with_reducible rfl)
                simp only [Act.put, List.setIfInBounds_toArray, List.set_cons_zero, List.set_cons_succ]
                refine wpAnyH_take (i := 18) (oi := { dst := some 97, op := Op.move (Operand.tmp 15), type := 3, pos := "law.go:73", after := #[{ on := 17, ground := Ground.guard }], guard := some (17, false) }) (v := ?tkv18) rfl (by kernel_rfl) (by kernel_rfl) (by kernel_rfl) (fun _ _ _ h => h) (Or.inl ⟨by rfl, ?tky18⟩) (by assumption) ?tkr18
                case tky18 => (intro w hSw; go_simp; first | done | with_reducible rfl)
                simp only [Act.put, List.setIfInBounds_toArray, List.set_cons_zero, List.set_cons_succ]
                refine wpAnyH_take (i := 21) (oi := { dst := some 100, op := Op.move (Operand.tmp 7), type := 22, pos := "law.go:73", after := #[{ on := 17, ground := Ground.guard }], guard := some (17, false) }) (v := ?tkv21) rfl (by kernel_rfl) (by kernel_rfl) (by kernel_rfl) (fun _ _ _ h => h) (Or.inl ⟨by rfl, ?tky21⟩) (by assumption) ?tkr21
                case tky21 => (intro w hSw; go_simp; first | done | with_reducible rfl)
                simp only [Act.put, List.setIfInBounds_toArray, List.set_cons_zero, List.set_cons_succ]
                refine wpAnyH_take (i := 22) (oi := { dst := some 101, op := Op.move (Operand.tmp 7), type := 22, pos := "law.go:73", after := #[{ on := 17, ground := Ground.guard }], guard := some (17, false) }) (v := ?tkv22) rfl (by kernel_rfl) (by kernel_rfl) (by kernel_rfl) (fun _ _ _ h => h) (Or.inl ⟨by rfl, ?tky22⟩) (by assumption) ?tkr22
                case tky22 => (intro w hSw; go_simp; first | done | with_reducible rfl)
                simp only [Act.put, List.setIfInBounds_toArray, List.set_cons_zero, List.set_cons_succ]
                refine wpAnyH_take (i := 23) (oi := { dst := some 102, op := Op.call { callee := Callee.builtin Builtin.len, args := #[Operand.tmp 101], argTypes := #[22] }, type := 3, pos := "law.go:73", after := #[{ on := 22, ground := Ground.data }, { on := 17, ground := Ground.guard }], guard := some (17, false) }) (v := ?tkv23) rfl (by kernel_rfl) (by kernel_rfl) (by kernel_rfl) (fun _ _ _ h => h) (Or.inl ⟨by rfl, ?tky23⟩) (by assumption) ?tkr23
                case tky23 => (intro w hSw; go_simp; first | done | with_reducible rfl)
                simp only [Act.put, List.setIfInBounds_toArray, List.set_cons_zero, List.set_cons_succ]
                refine wpAnyH_take (i := 24) (oi := { dst := some 103, op := Op.move (Operand.tmp 16), type := 3, pos := "law.go:73", after := #[{ on := 17, ground := Ground.guard }], guard := some (17, false) }) (v := ?tkv24) rfl (by kernel_rfl) (by kernel_rfl) (by kernel_rfl) (fun _ _ _ h => h) (Or.inl ⟨by rfl, ?tky24⟩) (by assumption) ?tkr24
                case tky24 => (intro w hSw; go_simp; first | done | with_reducible rfl)
                simp only [Act.put, List.setIfInBounds_toArray, List.set_cons_zero, List.set_cons_succ]
                refine wpAnyH_take (i := 25) (oi := { dst := some 104, op := Op.binOp BinOp.sub 3 (Operand.tmp 102) (Operand.tmp 103) 3, type := 3, pos := "law.go:73", after := #[{ on := 23, ground := Ground.data }, { on := 24, ground := Ground.data }, { on := 17, ground := Ground.guard }], guard := some (17, false) }) (v := ?tkv25) rfl (by kernel_rfl) (by kernel_rfl) (by kernel_rfl) (fun _ _ _ h => h) (Or.inl ⟨by rfl, ?tky25⟩) (by assumption) ?tkr25
                case tky25 => (intro w hSw; go_simp; first | done | with_reducible rfl)
                simp only [Act.put, List.setIfInBounds_toArray, List.set_cons_zero, List.set_cons_succ]
                refine wpAnyH_take (i := 26) (oi := { dst := some 105, op := Op.move (Operand.tmp 7), type := 22, pos := "law.go:73", after := #[{ on := 17, ground := Ground.guard }], guard := some (17, false) }) (v := ?tkv26) rfl (by kernel_rfl) (by kernel_rfl) (by kernel_rfl) (fun _ _ _ h => h) (Or.inl ⟨by rfl, ?tky26⟩) (by assumption) ?tkr26
                case tky26 => (intro w hSw; go_simp; first | done | with_reducible rfl)
                simp only [Act.put, List.setIfInBounds_toArray, List.set_cons_zero, List.set_cons_succ]
                refine wpAnyH_take (i := 27) (oi := { dst := some 106, op := Op.call { callee := Callee.builtin Builtin.len, args := #[Operand.tmp 105], argTypes := #[22] }, type := 3, pos := "law.go:73", after := #[{ on := 26, ground := Ground.data }, { on := 17, ground := Ground.guard }], guard := some (17, false) }) (v := ?tkv27) rfl (by kernel_rfl) (by kernel_rfl) (by kernel_rfl) (fun _ _ _ h => h) (Or.inl ⟨by rfl, ?tky27⟩) (by assumption) ?tkr27
                case tky27 => (intro w hSw; go_simp; first | done | with_reducible rfl)
                simp only [Act.put, List.setIfInBounds_toArray, List.set_cons_zero, List.set_cons_succ]
                refine wpAnyH_take (i := 28) (oi := { dst := some 107, op := Op.move (Operand.tmp 16), type := 3, pos := "law.go:73", after := #[{ on := 17, ground := Ground.guard }], guard := some (17, false) }) (v := ?tkv28) rfl (by kernel_rfl) (by kernel_rfl) (by kernel_rfl) (fun _ _ _ h => h) (Or.inl ⟨by rfl, ?tky28⟩) (by assumption) ?tkr28
                case tky28 => (intro w hSw; go_simp; first | done | with_reducible rfl)
                simp only [Act.put, List.setIfInBounds_toArray, List.set_cons_zero, List.set_cons_succ]
                refine wpAnyH_take (i := 29) (oi := { dst := some 108, op := Op.binOp BinOp.sub 3 (Operand.tmp 106) (Operand.tmp 107) 3, type := 3, pos := "law.go:73", after := #[{ on := 27, ground := Ground.data }, { on := 28, ground := Ground.data }, { on := 17, ground := Ground.guard }], guard := some (17, false) }) (v := ?tkv29) rfl (by kernel_rfl) (by kernel_rfl) (by kernel_rfl) (fun _ _ _ h => h) (Or.inl ⟨by rfl, ?tky29⟩) (by assumption) ?tkr29
                case tky29 => (intro w hSw; go_simp; first | done | with_reducible rfl)
                simp only [Act.put, List.setIfInBounds_toArray, List.set_cons_zero, List.set_cons_succ]
                refine wpAnyH_take (i := 30) (oi := { dst := some 109, op := Op.move (Operand.tmp 17), type := 3, pos := "law.go:73", after := #[{ on := 17, ground := Ground.guard }], guard := some (17, false) }) (v := ?tkv30) rfl (by kernel_rfl) (by kernel_rfl) (by kernel_rfl) (fun _ _ _ h => h) (Or.inl ⟨by rfl, ?tky30⟩) (by assumption) ?tkr30
                case tky30 => (intro w hSw; go_simp; first | done | with_reducible rfl)
                simp only [Act.put, List.setIfInBounds_toArray, List.set_cons_zero, List.set_cons_succ]
                refine wpAnyH_take (i := 31) (oi := { dst := some 110, op := Op.binOp BinOp.add 3 (Operand.tmp 108) (Operand.tmp 109) 3, type := 3, pos := "law.go:73", after := #[{ on := 29, ground := Ground.data }, { on := 30, ground := Ground.data }, { on := 17, ground := Ground.guard }], guard := some (17, false) }) (v := ?tkv31) rfl (by kernel_rfl) (by kernel_rfl) (by kernel_rfl) (fun _ _ _ h => h) (Or.inl ⟨by rfl, ?tky31⟩) (by assumption) ?tkr31
                case tky31 => (intro w hSw; go_simp; first | done | with_reducible rfl)
                simp only [Act.put, List.setIfInBounds_toArray, List.set_cons_zero, List.set_cons_succ]
                refine wpAnyH_take (i := 32) (oi := { dst := some 111, op := Op.slice 22 (Operand.tmp 100) (some (Operand.tmp 104)) (some (Operand.tmp 110)) none, type := 22, pos := "law.go:73", after := #[{ on := 21, ground := Ground.data }, { on := 25, ground := Ground.data }, { on := 31, ground := Ground.data }, { on := 17, ground := Ground.guard }], guard := some (17, false) }) (v := ?tkv32) rfl (by kernel_rfl) (by kernel_rfl) (by kernel_rfl) (fun _ _ _ h => h) (Or.inl ⟨by rfl, ?tky32⟩) (by assumption) ?tkr32
                case tky32 => (intro w hSw; go_simp; first | done | with_reducible rfl)
                simp only [Act.put, List.setIfInBounds_toArray, List.set_cons_zero, List.set_cons_succ]
                refine wpAnyH_take (i := 33) (oi := { dst := some 112, op := Op.convert 22 9 (Operand.tmp 111), type := 9, pos := "law.go:73", after := #[{ on := 32, ground := Ground.data }, { on := 17, ground := Ground.guard }], guard := some (17, false) }) (v := ?tkv33) rfl (by kernel_rfl) (by kernel_rfl) (by kernel_rfl) (fun _ _ _ h => h) (Or.inl ⟨by rfl, ?tky33⟩) (by assumption) ?tkr33
                case tky33 => (intro w hSw; go_simp; first | done | with_reducible rfl)
                simp only [Act.put, List.setIfInBounds_toArray, List.set_cons_zero, List.set_cons_succ]
                refine wpAnyH_ready (rs := [19]) (by kernel_rfl) (by simp) ?_
                refine AllReadyH.cons (o := { dst := some 98, op := Op.call { callee := Callee.value (Operand.func 10), args := #[Operand.const (Value.slice none 0 0), Operand.tmp 97], argTypes := #[22, 3] }, type := 22, pos := "law.go:73", after := #[{ on := 18, ground := Ground.data }, { on := 17, ground := Ground.chain }, { on := 17, ground := Ground.guard }], guard := some (17, false) }) rfl (fun K hK => ?_) AllReadyH.nil
                go_simp
                go_at_call 10; have hcc := number0 kk (x : Int) cx w4.drew HKK.out; refine hcc.mono ?_; clear hcc; rintro ev w5 ⟨Az, cz, rfl, hq, hC, hb⟩; have HB5 := Aside0.mk hb; have hv1 := conv (c := cz) hC HSX.out; have hv3 := conv (c := c') (Kd.C_below (Kd.C_drew (Kd.C_below HCm.out HB4.out)) hb) HSX.out; clear hq hC hb
                go_wp2_with fail
                refine hK.out _ _ hv3 (fun hHeld => ?_)
                clear hK K
                refine wpAnyH_ready (rs := [20]) (by kernel_rfl) (by simp) ?_
                refine AllReadyH.cons (o := { dst := some 99, op := Op.convert 22 9 (Operand.tmp 98), type := 9, pos := "law.go:73", after := #[{ on := 19, ground := Ground.data }, { on := 17, ground := Ground.guard }], guard := some (17, false) }) rfl (fun K hK => ?_) AllReadyH.nil
                go_simp
                refine hK.out _ _ hv3 (fun hHeld => ?_)
                clear hK K
                refine wpAnyH_take (i := 34) (oi := { dst := some 113, op := Op.binOp BinOp.neq 9 (Operand.tmp 99) (Operand.tmp 112) 9, type := 4, pos := "law.go:73", after := #[{ on := 20, ground := Ground.data }, { on := 33, ground := Ground.data }, { on := 17, ground := Ground.guard }], guard := some (17, false) }) (v := ?tkv34) rfl (by kernel_rfl) (by kernel_rfl) (by kernel_rfl) (fun _ _ _ h => h) (Or.inl ⟨by rfl, ?tky34⟩) (by assumption) ?tkr34
                case tky34 => (intro w hSw; go_simp; first | done | with_reducible rfl)
                simp only [Act.put, List.setIfInBounds_toArray, List.set_cons_zero, List.set_cons_succ]
                refine wpAnyH_take (i := 35) (oi := { dst := some 114, op := Op.pick (Operand.tmp 96) (Operand.const (Value.bool true)) (Operand.tmp 113), type := 4, pos := "law.go:73", after := #[{ on := 17, ground := Ground.data }, { on := 34, ground := Ground.data }], guard := none }) (v := ?tkv35) rfl (by kernel_rfl) (by kernel_rfl) (by kernel_rfl) (fun _ _ _ h => h) (Or.inl ⟨by rfl, ?tky35⟩) (by assumption) ?tkr35
                case tky35 => (intro w hSw; go_simp; first | done | with_reducible rfl)
                simp only [Act.put, List.setIfInBounds_toArray, List.set_cons_zero, List.set_cons_succ]
                refine wpAnyH_done (by kernel_rfl) ?_ _
                refine NoPanic.normal ?_
                all_goals (go_wp2_with fail)
                all_goals (go_meet)
                all_goals (case rel => exact ⟨by first | rfl | simp, ⟨below_step (below_drew (Below.refl _ _)) HB5.out⟩⟩)
              case rest =>
                obtain ⟨rfl, HBx⟩ := hcut
                go_wp2
                simp only [hw2]
                go_roundw
                case measure => (simp only [intOf]; first | exact meas3 hlt3 | exact meas2 hlt3)
                case rel =>
                  exact ⟨j + 1, hlt3, by first | rfl | rw [hw2], ⟨by rw [HD'.out]; exact HI4.out.below HBx.out⟩, ⟨below_weaken HB4.out HB4.out.size HBx.out⟩⟩
            · have he3 : j = wn.length := Nat.le_antisymm hj (Nat.le_of_not_lt hlt3)
              subst he3
              have hnl3 : ¬ (((wn.length : Nat) : Int) < (wn.length : Int)) := Int.lt_irrefl _
              rw [List.drop_length] at HI
              have HI4 : Aside0 (IsRd 53 u wr g (texts s) 0) := ⟨by simpa [nums] using HI.out⟩
              have HCBu := HCB
              clear HI HCW HIL HCB HC8
              go_wp2_with fail
              go_loopw [118] (fun v118 wr => ∃ j : Nat, j ≤ s.length ∧ v118 = .int .i64 (j : Int) ∧ Aside0 (IsRd 53 u wr g (texts (s.drop j)) 0) ∧ Aside0 (Below u.heap.size u wr)) (fun v118 _ => s.length - (intOf v118).toNat)
              case atStart => exact ⟨0, Nat.zero_le _, rfl, ⟨by rw [List.drop_zero]; exact HI4.out⟩, HBr⟩
              case round =>
                clear HI4 HBr
                obtain ⟨j, hj4, rfl, HI, HBr⟩ := hrel
                by_cases hlt4 : j < s.length
                · obtain ⟨ad1, At, ct, e1, hx, hlc, hi⟩ := at_L1 HR1.out (j : Int) (Int.natCast_nonneg j) (Int.ofNat_lt.2 hlt4)
                  cases e1
                  have hbel := below_step HWu.out HBr.out
                  replace hx := pw_cell_below hbel hx
                  have h4 : rd_L1 s (j : Int) = s.getD j [] := by simp [rd_L1]
                  rw [h4] at hx hi
                  have HTI := Aside0.mk hi
                  have HTW := Aside0.mk (Kd.C_below hi hbel)
                  have HTD := Aside0.mk (Kd.C_drew (Kd.C_below hi hbel))
                  simp only [Int.toNat_natCast] at hx
                  have HST := Aside0.mk (text_at hlt4 (HT.out _ (getD_mem hlt4)))
                  have HFT := Aside0.mk (fine_texts HBE.out HFB.out j)
                  have hw2 := step64 hlt4 HN1.out
                  obtain ⟨t, ht⟩ : ∃ t, s.getD j [] = t := ⟨_, rfl⟩
                  rw [ht] at hx HTI HTW HTD HST
                  obtain ⟨sx, hsx⟩ : ∃ sx, strOfNums t = sx := ⟨_, rfl⟩
                  have HSX := Aside0.mk hsx
                  clear hi hlc h4 ht hbel hsx
                  obtain ⟨D, hD0⟩ : ∃ D, texts (s.drop j) = D := ⟨_, rfl⟩
                  rw [hD0] at HI HST HFT
                  clear hD0
                  obtain ⟨D', hD'⟩ : ∃ D', texts (s.drop (j + 1)) = D' := ⟨_, rfl⟩
                  have HD' := Aside0.mk hD'
                  rw [hD'] at HST
                  clear hD'
                  have HId : Aside0 (IsRd 53 u wr.drew g D 0) := ⟨HI.out⟩
                  have HBd : Aside0 (Below u.heap.size u wr.drew) := ⟨below_drew HBr.out⟩
                  go_upto_region 33 with fail
                  go_cut [127] (fun v127 wx => v127 = .bool false ∧ Aside0 (IsRd 53 u wx g D' 0) ∧ Aside0 (Below u.heap.size u wx))
                  case first =>
                    have hv1 := conv (c := ct) HTW.out HSX.out
                    have hv2 := conv (c := ct) HTD.out HSX.out
                    go_region_with (first | (go_at_call 17; have hcc := own_textE HST.out HId.out HBd.out HFT.out; refine hcc.mono ?_; clear hcc; rintro ev w5 ⟨vt, rfl, hR, hI, hB, hK⟩; have HI5 := Aside0.mk hI; have HB5 := Aside0.mk hB; obtain ⟨A5, c5, rfl, hz5, hC5⟩ := Kd.R_reads hR; have hv5 := conv (c := c5) hC5 HSX.out; have hv6 := conv (c := ct) (Kd.C_below HTI.out (below_step HWu.out hB)) HSX.out; clear hI hB hK hR hz5 hC5))
                    all_goals (go_wp2_with fail)
                    all_goals (go_meet)
                    all_goals (case rel => exact ⟨by first | rfl | simp, HI5, HB5⟩)
                  case rest =>
                    obtain ⟨rfl, HI5, HB5⟩ := hcut
                    go_wp2
                    go_roundw
                    case measure => (simp only [intOf]; exact meas2 hlt4)
                    case rel => exact ⟨j + 1, hlt4, by first | rfl | rw [hw2], ⟨by rw [HD'.out]; exact HI5.out⟩, HB5⟩
                · have he4 : j = s.length := Nat.le_antisymm hj4 (Nat.le_of_not_lt hlt4)
                  subst he4
                  have hnl4 : ¬ (((s.length : Nat) : Int) < (s.length : Int)) := Int.lt_irrefl _
                  rw [List.drop_length] at HI
                  have HI6 : Aside0 (IsRd 53 u wr g [] 0) := ⟨by simpa [texts] using HI.out⟩
                  clear HI
                  by_cases hBz : B.length = 0
                  · have hz1 : ((B.length : Int) = 0) := by rw [hBz]; rfl
                    have hz2 : ((B.length : Int) == 0) = true := by rw [hBz]; rfl
                    go_wp2_with (first | (go_at_call 19; have hcc := Rdr.left u wr g [] 0 HI6.out; refine hcc.mono ?_; clear hcc; rintro ev w7 ⟨rfl, hb⟩; have HI7 := Aside0.mk (HI6.out.below hb); have HB7 := Aside0.mk (below_weaken HBr.out HBr.out.size hb); clear hb) | (go_at_call 20; have hcc := Rdr.err u w7 g [] 0 HI7.out; refine hcc.mono ?_; clear hcc; rintro ev w8 ⟨rfl, hb⟩; have HB8 := Aside0.mk (below_weaken HB7.out HB7.out.size hb); clear hb) | (go_at_call 9; refine (Aw.awake _).mono ?_; rintro ev w9 ⟨rfl, hb⟩; have HB9 := Aside0.mk (below_step (below_step HWu.out HB8.out) hb); clear hb))
                    go_ret
                    exact ⟨rfl, HB9.out⟩
                  · obtain ⟨q, hq1, hq2, hq3, hq4⟩ := cut_at a2 B.length (Nat.pos_of_ne_zero hBz) HFB.out.2
                    have hz1 : ¬ ((B.length : Int) = 0) := fun h => hBz (Int.ofNat_inj.1 h)
                    have HQ2 := Aside0.mk hq2
                    obtain ⟨Ap, cp, hcut, hCp, hcp⟩ := upto_rd (hi := (q : Int)) HCBu.out HZ.out (Int.natCast_nonneg q) (Int.ofNat_le.2 (Nat.le_of_lt hq2))
                    rw [Int.toNat_natCast] at hcut hCp hcp
                    have HSH0 := Aside0.mk (short_start hq2)
                    have HFP := Aside0.mk (fine_take HFB.out q)
                    obtain ⟨P, hP⟩ : ∃ P, B.take q = P := ⟨_, rfl⟩
                    rw [hP] at hcut hCp hcp HSH0 HFP
                    have HCP := Aside0.mk hCp
                    have HCZ := Aside0.mk hcp
                    clear hq2 hCp hcp hP hBz
                    go_wp2_with (first | (go_at_call 19; have hcc := Rdr.left u wr g [] 0 HI6.out; refine hcc.mono ?_; clear hcc; rintro ev w7 ⟨rfl, hb⟩; have HI7 := Aside0.mk (HI6.out.below hb); have HB7 := Aside0.mk (below_weaken HBr.out HBr.out.size hb); clear hb) | (go_at_call 20; have hcc := Rdr.err u w7 g [] 0 HI7.out; refine hcc.mono ?_; clear hcc; rintro ev w8 ⟨rfl, hb⟩; have HB8 := Aside0.mk (below_weaken HB7.out HB7.out.size hb); clear hb) | (go_at_call 14; have hcc := newReader w8 Ap cp P (Kd.C_below HCP.out HB8.out) HCZ.out HFP.out.2; refine hcc.mono ?_; clear hcc; rintro ev w9 ⟨g2, u2, rfl, hI, hb, hB⟩; have HI9 := Aside0.mk hI; have HWu2 := Aside0.mk (below_step (below_step HWu.out HB8.out) hb); have HB9 := Aside0.mk hB; clear hI hb hB))
                    go_loopw [153] (fun v153 wr => ∃ (j : Nat) (l : List Int) (e : Int), j ≤ wn.length ∧ v153 = .int .i64 (j : Int) ∧ Aside0 (IsRd 53 u2 wr g2 l e) ∧ Aside0 (Fine l) ∧ Aside0 (Short l e (nums (wn.drop j) ++ texts s)) ∧ Aside0 (Below u2.heap.size u2 wr)) (fun v153 _ => wn.length - (intOf v153).toNat)
                    case atStart => exact ⟨0, P, 0, Nat.zero_le _, rfl, HI9, HFP, ⟨by rw [List.drop_zero, HBE.out]; exact HSH0.out⟩, HB9⟩
                    case round =>
                      clear HI9 HB9 HSH0 HFP
                      obtain ⟨j, l, e, hj5, rfl, HI, HF, HSh, HBq⟩ := hrel
                      by_cases hlt5 : j < wn.length
                      · obtain ⟨v, l', e', hst⟩ : ∃ v l' e', numStep l e 1099511627776 = (v, l', e') := ⟨_, _, _, rfl⟩
                        have HST := Aside0.mk hst
                        have HF' : Aside0 (Fine l') := ⟨by have := numStep_fine HF.out e 1099511627776; rw [hst] at this; exact this⟩
                        have HSh' := Aside0.mk (short_numD hlt5 HWS.out HSh.out hst)
                        have hw2 := step64 hlt5 HWL.out
                        clear hst
                        go_wp2_with (go_at_call 15; have hcc := own_numberE HST.out HI.out HBq.out HF.out; refine hcc.mono ?_; clear hcc; rintro ev w5 ⟨rfl, hI, hB, -⟩; have HI5 := Aside0.mk hI; have HB5 := Aside0.mk hB; clear hI hB)
                        try simp only [hw2]
                        go_roundw
                        case measure => (simp only [intOf]; first | exact meas3 hlt5 | exact meas2 hlt5)
                        case rel => exact ⟨j + 1, l', e', hlt5, by first | rfl | rw [hw2], HI5, HF', HSh', HB5⟩
                      · have he5 : j = wn.length := Nat.le_antisymm hj5 (Nat.le_of_not_lt hlt5)
                        subst he5
                        have hnl5 : ¬ (((wn.length : Nat) : Int) < (wn.length : Int)) := Int.lt_irrefl _
                        rw [List.drop_length] at HSh
                        have HSh6 : Aside0 (Short l e (texts s)) := ⟨by have := HSh.out; simpa [nums] using this⟩
                        clear HSh
                        go_wp2_with fail
                        go_loopw [160] (fun v160 wr => ∃ (j : Nat) (l : List Int) (e : Int), j ≤ s.length ∧ v160 = .int .i64 (j : Int) ∧ Aside0 (IsRd 53 u2 wr g2 l e) ∧ Aside0 (Fine l) ∧ Aside0 (Short l e (texts (s.drop j))) ∧ Aside0 (Below u2.heap.size u2 wr)) (fun v160 _ => s.length - (intOf v160).toNat)
                        case atStart => exact ⟨0, l, e, Nat.zero_le _, rfl, HI, HF, ⟨by rw [List.drop_zero]; exact HSh6.out⟩, HBq⟩
                        case round =>
                          clear HI HF HSh6 HBq
                          obtain ⟨j, l, e, hj6, rfl, HI, HF, HSh, HBq⟩ := hrel
                          by_cases hlt6 : j < s.length
                          · obtain ⟨v, l', e', hst⟩ : ∃ v l' e', textStep l e 300 = (v, l', e') := ⟨_, _, _, rfl⟩
                            have HST := Aside0.mk hst
                            have HF' : Aside0 (Fine l') := ⟨by have := textStep_fine HF.out e 300; rw [hst] at this; exact this⟩
                            have HSh' := Aside0.mk (short_textD hlt6 HT.out HSh.out hst)
                            have hw2 := step64 hlt6 HN1.out
                            clear hst
                            go_wp2_with (go_at_call 17; have hcc := own_textE HST.out HI.out HBq.out HF.out; refine hcc.mono ?_; clear hcc; rintro ev w5 ⟨vt, rfl, -, hI, hB, -⟩; have HI5 := Aside0.mk hI; have HB5 := Aside0.mk hB; clear hI hB)
                            try simp only [hw2]
                            go_roundw
                            case measure => (simp only [intOf]; first | exact meas3 hlt6 | exact meas2 hlt6)
                            case rel => exact ⟨j + 1, l', e', hlt6, by first | rfl | rw [hw2], HI5, HF', HSh', HB5⟩
                          · have he6 : j = s.length := Nat.le_antisymm hj6 (Nat.le_of_not_lt hlt6)
                            subst he6
                            have hnl6 : ¬ (((s.length : Nat) : Int) < (s.length : Int)) := Int.lt_irrefl _
                            rw [List.drop_length] at HSh
                            obtain rfl := short_end HSh.out
                            have HST : Aside0 (numStep l 5 5 = (0, l, 5)) := ⟨rfl⟩
                            go_wp2_with (first | (go_at_call 20; have hcc := Rdr.err u2 wr g2 l 5 HI.out; refine hcc.mono ?_; clear hcc; rintro ev w7 ⟨rfl, hb⟩; have HI7 := Aside0.mk (HI.out.below hb); have HB7 := Aside0.mk (below_weaken HBq.out HBq.out.size hb); clear hb) | (go_at_call 15; have hcc := own_numberE HST.out HI7.out HB7.out HF.out; refine hcc.mono ?_; clear hcc; rintro ev w8 ⟨rfl, hI, hB, -⟩; have HB8 := Aside0.mk hB; clear hI hB) | (go_at_call 9; refine (Aw.awake _).mono ?_; rintro ev w9 ⟨rfl, hb⟩; have HB9 := Aside0.mk (below_step (below_step HWu2.out HB8.out) hb); clear hb))
                            go_ret
                            exact ⟨rfl, HB9.out⟩
end Go.Proofs.Ytnfkegeboelaeaa.Back
