import Derived.Test.YtnfkegeboelaeaaAw
import Derived.Test.YtnfkegeboelaeaaSt
import Derived.Deep.RegionWith
import Derived.StillTailTactics
import Derived.Deep.DeepCutAuto
set_option linter.unusedVariables false
set_option linter.unusedSimpArgs false
/-! BytesOne: the walks. -/
namespace Go.Proofs.Ytnfkegeboelaeaa.One
open Go.RowKit Go.Proofs.YtnfkegeboelaeaaW.PrintWords Go.Proofs.YtnfkegeboelaeaaW.PrintLast Go.Proofs.YtnfkegeboelaeaaW.PrintMore Go.Proofs.Ytnfkegeboelaeaa.PAll Go.Proofs.Ytnfkegeboelaeaa.Rdr Go.Proofs.Ytnfkegeboelaeaa.Aw Go.Proofs.Ytnfkegeboelaeaa.St
attribute [local go_sem] max2_int min2_int max_two min_two max_three min_three max_four min_four

set_option maxHeartbeats 4000000 in
set_option maxRecDepth 100000 in
theorem long (W : World) (A0 : Option Addr) (c0 : Nat) (b : List Int) (a1 a2 : Int) (h : 20 < b.length) : Calls Try.prog 7 #[.slice A0 b.length c0, .int .i64 a1, .int .i64 a2] W fun e w' => e = .returned (.bool true) ∧ Below W.heap.size W w' := by
  have h1 : ((b.length : Int) > 20) := by omega
  clear h
  go_enter Try.func7, Try.ntmps7
  go_wp2_with (go_at_call 9; refine (Aw.awake _).mono ?_; rintro e w5 ⟨rfl, hb⟩; have HB5 := Aside0.mk hb; clear hb)
  go_ret
  exact ⟨rfl, HB5.out⟩
set_option maxHeartbeats 8000000 in
set_option maxRecDepth 100000 in
theorem walk (W : World) (A0 : Option Addr) (c0 : Nat) (b : List Int) (a1 a2 : Int) (hs : b.length ≤ 20) (hr : Kd.C (Kd.int .u8) W A0 b.length b) (hc : b.length ≤ c0) (hf : Fine b)
    (n m : Nat) (hn : wrap64 (Int.tmod (IntKind.u64.wrap a1) 1099511627776) = (n : Int)) (hm : wrap64 (Int.tmod (IntKind.u64.wrap a2) 1099511627776) = (m : Int))
    (L L2 : List Int) (k : Nat) (h1 : bytes_Number.f k [] n = some L) (h2 : bytes_Number.f k [] m = some L2)
    (hcmp : ((strOfNums L).size < (strOfNums L2).size ∧ n < m) ∨ ((strOfNums L).size = (strOfNums L2).size ∧ Op.bytesLess (strOfNums L).toList (strOfNums L2).toList = decide (n < m)) ∨ ((strOfNums L2).size < (strOfNums L).size ∧ ¬ n < m))
    (v e' : Int) (l' : List Int) (hst : numStep b 0 1099511627776 = (v, l', e')) (hend : (e' = 5 ∧ v = 0 ∧ l' = b) ∨ (e' = 0 ∧ ∃ (z : List Int) (k' : Nat), bytes_Number.f k' [] v = some z ∧ z.length ≤ b.length ∧ l'.length + z.length = b.length ∧ b.take z.length = z)) : Calls Try.prog 7 #[.slice A0 b.length c0, .int .i64 a1, .int .i64 a2] W fun e w' => e = .returned (.bool true) ∧ Below W.heap.size W w' := by
  have g1 : ¬ ((b.length : Int) > 20) := by omega
  have g2 : ¬ (20 < (b.length : Int)) := by omega
  have HR := Aside0.mk hr
  have HC := Aside0.mk hc
  have H1 := Aside0.mk h1
  have H2 := Aside0.mk h2
  have HF := Aside0.mk hf
  clear hr hc h1 h2 hs hf
  obtain ⟨s1, hs1⟩ : ∃ s1, strOfNums L = s1 := ⟨_, rfl⟩
  obtain ⟨s2, hs2⟩ : ∃ s2, strOfNums L2 = s2 := ⟨_, rfl⟩
  rw [hs1, hs2] at hcmp
  have HCM := Aside0.mk hcmp
  have HST := Aside0.mk hst
  have HEND := Aside0.mk hend
  clear hcmp hst hend
  have HS1 := Aside0.mk hs1
  have HS2 := Aside0.mk hs2
  clear hs1 hs2
  go_enter Try.func7, Try.ntmps7
  go_upto_region 4 with fail
  simp only [hn, hm]
  go_cut [7, 8] (fun v7 v8 wx => v7 = .string s1 ∧ v8 = .string s2 ∧ Aside0 (Below W.heap.size W wx))
  case first =>
    go_region_with (first | (go_at_call_of 10 (Value.int .i64 (n : Int)); refine (number0 k n L _ H1.out).mono ?_; rintro e w1 ⟨A1, c1, rfl, hz, hC, hb⟩; have HC1 := Aside0.mk hC; have HB1 := Aside0.mk hb; have hv1 := conv (c := c1) hC HS1.out; clear hz hC hb) | (go_at_call_of 10 (Value.int .i64 (m : Int)); refine (number0 k m L2 _ H2.out).mono ?_; rintro e w2 ⟨A2, c2, rfl, hz, hC, hb⟩; have HB2 := Aside0.mk (below_step HB1.out hb); have hv1 := conv (c := c1) (Kd.C_below HC1.out hb) HS1.out; have hv2 := conv (c := c2) hC HS2.out; clear hz hC hb))
    all_goals (go_wp2_with fail)
    all_goals (go_meet)
    all_goals (case rel => exact ⟨rfl, rfl, ⟨below_step (below_drew (Below.refl _ _)) HB2.out⟩⟩)
  case rest =>
    obtain ⟨rfl, rfl, HB⟩ := hcut
    go_upto_region 5 with fail
    go_cut [50] (fun v50 wx => v50 = .bool false ∧ wx = wc)
    case first =>
      rcases HCM.out with ⟨k1, k2⟩ | ⟨k1, k2⟩ | ⟨k1, k2⟩
      · have k3 : ¬ s2.size ≤ s1.size := by omega
        have k4 : ((s1.size : Int) < (s2.size : Int)) := by omega
        go_wp2
        go_meet
        exact ⟨rfl, rfl⟩
      · have k3 : ¬ s1.size < s2.size := by omega
        have k4 : ¬ ((s1.size : Int) < (s2.size : Int)) := by omega
        have k5 : ((s1.size : Int) = (s2.size : Int)) := by omega
        go_wp2
        go_meet
        exact ⟨by simp [k2], rfl⟩
      · have k3 : ¬ s1.size < s2.size := by omega
        have k4 : ¬ ((s1.size : Int) < (s2.size : Int)) := by omega
        have k5 : ¬ ((s1.size : Int) = (s2.size : Int)) := by omega
        have k6 : (s1.size == s2.size) = false := by simpa using (show s1.size ≠ s2.size by omega)
        go_wp2
        go_meet
        exact ⟨rfl, rfl⟩
    case rest =>
      obtain ⟨rfl, rfl⟩ := hcut
      go_wp2_with fail
      refine (newReader _ A0 c0 b (Kd.C_below HR.out HB.out) HC.out HF.out.2).mono ?_
      rintro e w1 ⟨g, u, rfl, hI, hb, hB⟩
      have HI1 := Aside0.mk hI
      have HU := Aside0.mk (below_step HB.out hb)
      have HB1 := Aside0.mk hB
      clear hI hb hB
      go_wp2_with fail
      refine (own_numberE HST.out HI1.out HB1.out HF.out).mono ?_
      rintro e w2 ⟨rfl, hI, hB, -⟩
      have HI2 := Aside0.mk hI
      have HB2 := Aside0.mk hB
      clear hI hB HI1 HB1 HST
      rcases HEND.out with ⟨rfl, rfl, rfl⟩ | ⟨rfl, z, k', hz1, hz2, hz3, hz4⟩
      · go_wp2_with (first | (go_at_call 20; refine (Rdr.err u _ g l' 5 HI2.out).mono ?_; rintro e w3 ⟨rfl, hb⟩; have HI3 := Aside0.mk (HI2.out.below hb); have HB3 := Aside0.mk (below_weaken HB2.out HB2.out.size hb); clear hb) | (go_at_call 19; refine (Rdr.left u _ g l' 5 HI3.out).mono ?_; rintro e w4 ⟨rfl, hb⟩; have HB4 := Aside0.mk (below_step HU.out (below_weaken HB3.out HB3.out.size hb)); clear hb) | (go_at_call 9; refine (Aw.awake _).mono ?_; rintro e w5 ⟨rfl, hb⟩; have HB5 := Aside0.mk (below_step HB4.out hb); clear hb))
        go_ret
        exact ⟨rfl, HB5.out⟩
      · have hsub : wrap64 ((b.length : Int) - (l'.length : Int)) = (z.length : Int) := by unfold wrap64; omega
        have hsubi : IntKind.i64.wrap ((b.length : Int) - (l'.length : Int)) = (z.length : Int) := by rw [IntKind.wrap_i64]; omega
        have hle : ((z.length : Int) ≤ (b.length : Int)) := by omega
        obtain ⟨A', c', hcut, hC', -⟩ := upto_rd (hi := (z.length : Int)) HR.out HC.out (by omega) (by omega)
        rw [Int.toNat_natCast, hz4] at hcut hC'
        have HC' := Aside0.mk hC'
        have HZ := Aside0.mk hz1
        obtain ⟨sz, hsz⟩ : ∃ sz, strOfNums z = sz := ⟨_, rfl⟩
        have HSZ := Aside0.mk hsz
        clear hC' hz1 hz2 hz3 hz4 hsz
        go_upto_region 12 with (first | (go_at_call 20; refine (Rdr.err u _ g l' 0 HI2.out).mono ?_; rintro e w3 ⟨rfl, hb⟩; have HI3 := Aside0.mk (HI2.out.below hb); have HB3 := Aside0.mk (below_weaken HB2.out HB2.out.size hb); clear hb) | (go_at_call 10; refine (number0 k' v z _ HZ.out).mono ?_; rintro e w4 ⟨Az, cz, rfl, hq, hC, hb⟩; have HI4 := Aside0.mk (HI3.out.below hb); have HB4 := Aside0.mk (below_weaken HB3.out HB3.out.size hb); have HCz := Aside0.mk hC; clear hb hq hC))
        have HW4 := Aside0.mk (below_step HU.out HB4.out)
        have hv1 := conv (c := cz) HCz.out HSZ.out
        have hv2 := conv (c := c') (Kd.C_below HC'.out HW4.out) HSZ.out
        have hv1d := conv (c := cz) (Kd.C_drew HCz.out) HSZ.out
        have hv2d := conv (c := c') (Kd.C_drew (Kd.C_below HC'.out HW4.out)) HSZ.out
        go_still_tail 26, (by kernel_rfl)
        refine wpStill_step (fun K hK => ?_)
        go_simp
        refine ⟨_, leftQ u _ g l' 0 HI4.out, hK _ ?_⟩
        clear hK K
        repeat still_step
        refine wpStill_nil ?_
        change wpList _ _ _ _ _ w4.drew
        have HW5 := Aside0.mk (below_drew HW4.out)
        clear hv1 hv2 hv1d hv2d
        generalize w4.drew = w5 at HW5 ⊢
        go_wp2_with (go_at_call 9; refine (Aw.awake _).mono ?_; rintro e w6 ⟨rfl, hb⟩; have HB6 := Aside0.mk (below_step HW5.out hb); clear hb)
        go_ret
        exact ⟨rfl, HB6.out⟩
end Go.Proofs.Ytnfkegeboelaeaa.One
