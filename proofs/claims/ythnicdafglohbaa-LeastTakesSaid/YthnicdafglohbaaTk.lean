/-  LeastTakes returns true whatever the pairs, the text and the number: what is added and taken away again is as it was; what has no count is not named.  -/
import Derived.Test.YthnicdafglohbaaBt
set_option linter.unusedVariables false
set_option linter.unusedSimpArgs false
namespace Go.Proofs.Ythnicdafglohbaa.Lw
open Go.RowKit Go.Maps Go.Sort Go.Lib Go.WideMaps Go.Proofs.YthnicdafglohbaaW.PrintWords Go.Proofs.YthnicdafglohbaaW.PrintLast Go.Proofs.YthnicdafglohbaaW.PrintMore
attribute [local go_sem] max2_int min2_int max_two min_two max_three min_three max_four min_four

theorem addS {c v : Int} (h0 : 0 ≤ c + v) (h1 : c + v ≤ 1099511627776) (h2 : v ≤ 1099511627776) : Ls.addZ c v = c + v := by
  unfold Ls.addZ Ls.mn
  rw [if_neg (show ¬ (1099511627776 : Int) < v by omega), if_neg (show ¬ c + v < 0 by omega), if_neg (by omega)]
theorem addS0 {c v : Int} (h0 : c + v ≤ 0) (h2 : v ≤ 1099511627776) : Ls.addZ c v = 0 := by
  unfold Ls.addZ Ls.mn
  rw [if_neg (show ¬ (1099511627776 : Int) < v by omega)]
  by_cases h : c + v < 0
  · rw [if_pos h, if_neg (by decide)]
  · rw [if_neg h, if_neg (by omega)]
    omega
theorem kset_gone {c c' : List UInt8 → Int} {ks ks' : List (List UInt8)} {k : List UInt8} (h : Ls.KSet c ks) (h' : Ls.KSet c' ks') (he : ∀ j, c' j = if j = k then 0 else c j) : ks'.length ≤ ks.length := by
  have hf : Ls.KSet c' (ks.filter fun j => decide (j ≠ k)) := by
    refine ⟨fun j hj => h.wf j (List.mem_filter.1 hj).1, h.lt.filter _, fun j wf => ?_⟩
    rw [List.mem_filter, h.mem j wf, he j]
    by_cases e : j = k
    · simp [e]
    · simp [e]
  rw [ksetS h' hf]
  exact List.length_filter_le _ _
theorem C_lit {W : World} {b : Nat} {cs : Array Value} {fr : Nat × Nat} {xs : List Int} (h : W.heap[b]? = some (.cells cs 5 fr)) (hc : cs.toList = xs.map (Value.int .u8)) (hl : xs.length ≤ 1000000) : Kd.C (Kd.int .u8) W (some ⟨b, 0, none⟩) xs.length xs := by
  refine Kd.C_of_reads (d := (0 : Int)) ⟨rfl, by omega, fun _ => ⟨_, rfl, fun j hj => ?_⟩⟩
  rw [add_plain, cell_of_row W b j cs 5 fr h, ← Array.getElem?_toList, hc, List.getElem?_map, List.getElem?_eq_getElem hj, List.getD_eq_getElem?_getD, List.getElem?_eq_getElem hj]
  rfl
set_option maxHeartbeats 8000000 in
set_option maxRecDepth 100000 in
theorem takes (W : World) (A : Option Addr) (cp : Nat) (l : List S33) (hC : Kd.C k33 W A l.length l) (kk : List UInt8) (wfk : kk.length ≤ maxLen) (a2 : Int) :
    Calls Try.prog 5 #[.slice A l.length cp, (encStr kk), .int .i64 a2] W fun e W' => e = .returned (.bool true) ∧ Below W.heap.size W W' := by
  have HC := Aside0.mk hC
  have WFK := Aside0.mk wfk
  clear hC wfk
  obtain ⟨n0, hn, hn1000⟩ := smallW a2 1000 (by decide) (by decide)
  obtain ⟨n, hnn⟩ : ∃ p, n0 + 1 = p := ⟨_, rfl⟩
  have HN := Aside0.mk (show 1 ≤ n ∧ n ≤ 1000 by omega)
  have hn2 : wrap64 (1 + (n0 : Int)) = (n : Int) := by
    rw [← hnn, show (1 : Int) + (n0 : Int) = ((n0 + 1 : Nat) : Int) by omega]
    exact Li.wrapS _ (by omega) (by omega)
  clear hnn hn1000
  by_cases h60 : 60 < l.length
  · have d1 : decide ((l.length : Int) > 60) = true := decide_eq_true (by omega)
    have d1n : decide (60 < l.length) = true := decide_eq_true h60
    clear h60
    go_enter Try.func5, Try.ntmps5
    go_wp2_with fail
    refine (awake W).mono ?_
    rintro ev w6 ⟨rfl, hb6⟩
    have HB6 := Aside0.mk hb6
    clear hb6
    go_wp2_with fail
    go_ret
    exact ⟨rfl, HB6.out⟩
  have d1 : decide ((l.length : Int) > 60) = false := decide_eq_false (by omega)
  have d1n : decide (60 < l.length) = false := decide_eq_false h60
  have HL := Aside0.mk (show l.length ≤ 60 by omega)
  clear h60
  by_cases h50 : 50 < kk.length
  · have d2 : decide ((kk.length : Int) > 50) = true := decide_eq_true (by omega)
    have d2n : decide (50 < kk.length) = true := decide_eq_true h50
    clear h50
    go_enter Try.func5, Try.ntmps5
    go_wp2_with fail
    refine (awake W).mono ?_
    rintro ev w6 ⟨rfl, hb6⟩
    have HB6 := Aside0.mk hb6
    clear hb6
    go_wp2_with fail
    go_ret
    exact ⟨rfl, HB6.out⟩
  have d2 : decide ((kk.length : Int) > 50) = false := decide_eq_false (by omega)
  have d2n : decide (50 < kk.length) = false := decide_eq_false h50
  clear h50
  go_enter Try.func5, Try.ntmps5
  go_wp2_with fail
  rw [hn, hn2]
  refine (Ls.new W).mono ?_
  rintro ev w1 ⟨rfl, hT, hb⟩
  have HB1 := Aside0.mk hb
  have HT1 := Aside0.mk hT
  obtain ⟨tb, htb⟩ : ∃ x, W.heap.size + 1 = x := ⟨_, rfl⟩
  obtain ⟨b, hb'⟩ : ∃ x, W.heap.size = x := ⟨_, rfl⟩
  rw [htb, hb'] at HT1
  rw [htb]
  have HBB := Aside0.mk (show W.heap.size ≤ b by omega)
  clear hT hb htb hb' d1 d1n d2 d2n hn hn2
  go_wp2_with fail
  go_loopw [29] (fun v29 wr => ∃ (i : Nat) (c : List UInt8 → Int), i ≤ l.length ∧ v29 = .int .i64 (i : Int) ∧ Aside0 (Ls.Tl wr tb b c i) ∧ Aside0 (∀ k, c k ≤ 50 * i) ∧ Aside0 (Below W.heap.size W wr)) (fun v29 _ => l.length - (intOf v29).toNat)
  case atStart => exact ⟨0, _, Nat.zero_le _, rfl, HT1, ⟨fun k => Int.le_refl _⟩, HB1⟩
  case round =>
    clear HT1 HB1
    obtain ⟨i, c, hi, rfl, HT, HCC, HB⟩ := hrel
    by_cases hlt : i < l.length
    · have hlt2 : (i : Int) < (l.length : Int) := by omega
      have HLT := Aside0.mk hlt
      have hw2 : wrap64 ((i : Int) + 1) = ((i + 1 : Nat) : Int) := by rw [show (i : Int) + 1 = ((i + 1 : Nat) : Int) by omega]; exact Li.wrapS _ (by omega) (by have := HL.out; omega)
      have HCr := Aside0.mk (Kd.C_below HC.out HB.out)
      obtain ⟨ad, rfl, x0, x1⟩ := pairAt HCr.out i hlt
      obtain ⟨d, hd⟩ : ∃ d, l.getD i z33 = d := ⟨_, rfl⟩
      rw [hd] at x0 x1
      obtain ⟨v, hv, hv50⟩ := smallW d.f1 50 (by decide) (by decide)
      have HV50 := Aside0.mk hv50
      obtain ⟨z, hz⟩ : ∃ z, IntKind.u8.wrap d.f0 = z := ⟨_, rfl⟩
      obtain ⟨kz, hkz⟩ : ∃ kz, [UInt8.ofNat z.toNat] = kz := ⟨_, rfl⟩
      have HKZ := Aside0.mk (show kz.length ≤ maxLen by rw [← hkz]; show 1 ≤ maxLen; decide)
      obtain ⟨w4, hw4⟩ : ∃ w4, wr.alloc (.cells #[.int .i64 d.f0, .int .i64 d.f1] 33) = w4 := ⟨_, rfl⟩
      have hs4 : w4.heap.size = wr.heap.size + 1 := by rw [← hw4]; simp
      have hcv : ∀ W', W' = w4.alloc (.cells #[.int .u8 z] 5) → (convert 40 9 (.slice (some ⟨wr.heap.size + 1, 0, none⟩) 1 1)).run Try.prog W' = .ok (encStr kz) W' := fun W' e => by
        subst e
        have h := Kd.C_string (P := Try.prog) (dst := 9) (c := 1) Try.underlying40 Try.underlying5 Try.underlying9 (C_lit (xs := [z]) (blk_new w4 (.cells #[.int .u8 z] 5)) rfl (by show 1 ≤ 1000000; decide))
        rw [hs4] at h
        rw [← hkz]
        exact h
      have hcv1 := hcv _ rfl
      rw [← hw4] at hcv1
      have hb4 : Below wr.heap.size wr (w4.alloc (.cells #[.int .u8 z] 5)) := by rw [← hw4]; exact below_alloc (below_alloc (Below.refl _ _) _) _
      obtain ⟨w5, hw5⟩ : ∃ w5, w4.alloc (.cells #[.int .u8 z] 5) = w5 := ⟨_, rfl⟩
      rw [hw5] at hb4
      rw [← hw4] at hw5
      have HT4 := Aside0.mk (HT.out.below hb4)
      have HB4 := Aside0.mk (below_step HB.out hb4)
      have HW5 := Aside0.mk hw5
      have HC4 := HCC
      clear hb4 hw4 hw5 HT HB hd hv50 hlt hi HCr hcv hs4 hkz
      go_wp2_with fail
      rw [HW5.out]
      clear hcv1 x0 x1 hv
      refine (Ls.add HT4.out (by have := HLT.out; have := HL.out; omega) kz HKZ.out (v : Int) (Li.rng_wf (by omega) (by have := HV50.out; omega))).mono ?_
      rintro ev w6 ⟨rfl, hT, hg⟩
      have HT5 := Aside0.mk hT
      have HB5 := Aside0.mk (HB4.out.grown hg HB4.out.size (fun j hj => by cases hj; exact HBB.out))
      have HC5 : Aside0 (∀ k, Ls.updZ c kz (Ls.addZ (c kz) (v : Int)) k ≤ 50 * ((i + 1 : Nat) : Int)) := ⟨fun k => by
        have h1 := HC4.out k
        have h2 := HC4.out kz
        have h3 := (HT4.out.rng kz).1
        have h4 := HV50.out
        have h5 := HLT.out
        have h6 := HL.out
        unfold Ls.updZ
        rw [addS (by omega) (by omega) (by omega)]
        split <;> omega⟩
      clear hT hg HT4 HB4
      go_wp2_with fail
      go_roundw
      case measure =>
        have hm : l.length - ((i + 1 : Nat) : Int).toNat < l.length - ((i : Nat) : Int).toNat := by
          rw [Int.toNat_natCast, Int.toNat_natCast]
          exact Nat.sub_lt_sub_left HLT.out (Nat.lt_succ_self i)
        first | exact hm | (rw [hw2]; exact hm)
      case rel => exact ⟨i + 1, _, HLT.out, by first | rw [hw2] | rfl, HT5, HC5, HB5⟩
    · have he : i = l.length := by omega
      subst he
      have hnn : ¬ (((l.length : Nat) : Int) < (l.length : Int)) := by omega
      clear hlt hi
      have HR := Aside0.mk (show 0 ≤ c kk ∧ c kk ≤ 3000 by
        have h1 := HCC.out kk
        have h2 := (HT.out.rng kk).1
        have h3 := HL.out
        omega)
      obtain ⟨ck, hck⟩ : ∃ x, c kk = x := ⟨_, rfl⟩
      rw [hck] at HR
      have HCK := Aside0.mk hck
      have e1 : Ls.addZ ck (n : Int) = ck + (n : Int) := by have := HR.out; have := HN.out; exact addS (by omega) (by omega) (by omega)
      have e2 : Ls.addZ (ck + (n : Int)) (-(n : Int)) = ck := by
        have := HR.out
        have := HN.out
        rw [addS (by omega) (by omega) (by omega)]
        omega
      have e3 : Ls.addZ ck (-ck - (n : Int)) = 0 := by have := HR.out; have := HN.out; exact addS0 (by omega) (by omega)
      have E1 := Aside0.mk e1
      have E2 := Aside0.mk e2
      have E3 := Aside0.mk e3
      have f1 : wrap64 (ck + (n : Int)) = ck + (n : Int) := by have := HR.out; have := HN.out; exact Li.wrapS _ (by omega) (by omega)
      have f2 : wrap64 (-(n : Int)) = -(n : Int) := by have := HN.out; exact Li.wrapS _ (by omega) (by omega)
      have f3 : wrap64 (-ck) = -ck := by have := HR.out; exact Li.wrapS _ (by omega) (by omega)
      have f4 : wrap64 (-ck - (n : Int)) = -ck - (n : Int) := by have := HR.out; have := HN.out; exact Li.wrapS _ (by omega) (by omega)
      have F1 := Aside0.mk f1
      have F2 := Aside0.mk f2
      have F3 := Aside0.mk f3
      have F4 := Aside0.mk f4
      clear e1 e2 e3 f1 f2 f3 f4 hck
      go_wp2_with fail
      refine (Ls.of' HT.out kk WFK.out).mono ?_
      rintro ev w2 ⟨rfl, hw⟩
      rw [hw, HCK.out]
      clear hw w2
      go_wp2_with fail
      refine (Ls.keys HT.out (by have := HL.out; omega)).mono ?_
      rintro ev w2 ⟨A2, cap2, ks, rfl, -, hkl, -, hks, hb⟩
      have HKS := Aside0.mk hks
      have HB2 := Aside0.mk (below_step HB.out hb)
      have HT2 := Aside0.mk (HT.out.below hb)
      clear hks hb HB HT hkl
      go_wp2_with fail
      refine (Ls.add HT2.out (by have := HL.out; omega) kk WFK.out (n : Int) (Li.rng_wf (by omega) (by have := HN.out; omega))).mono ?_
      rintro ev w3 ⟨rfl, hT, hg⟩
      rw [HCK.out, E1.out] at hT
      rw [HCK.out, E1.out]
      have HT3 := Aside0.mk hT
      have HB3 := Aside0.mk (HB2.out.grown hg HB2.out.size (fun j hj => by cases hj; exact HBB.out))
      clear hT hg HB2 HT2
      have f1 := F1.out
      have f2 := F2.out
      go_wp2_with fail
      refine (Ls.add HT3.out (by have := HL.out; omega) kk WFK.out (-(n : Int)) (Li.rng_wf (by have := HN.out; omega) (by omega))).mono ?_
      rintro ev w4 ⟨rfl, hT, hg⟩
      have ec : Ls.updZ c kk (ck + (n : Int)) kk = ck + (n : Int) := by unfold Ls.updZ; rw [if_pos rfl]
      rw [ec, E2.out] at hT
      rw [ec, E2.out]
      have ec2 : Ls.updZ (Ls.updZ c kk (ck + (n : Int))) kk ck = c := by
        funext j
        unfold Ls.updZ
        by_cases e : j = kk
        · rw [if_pos e, e, HCK.out]
        · rw [if_neg e, if_neg e]
      rw [ec2] at hT
      have HT4 := Aside0.mk hT
      have HB4 := Aside0.mk (HB3.out.grown hg HB3.out.size (fun j hj => by cases hj; exact HBB.out))
      clear hT hg HB3 HT3 ec ec2 f2
      go_wp2_with fail
      refine (Ls.keys HT4.out (by have := HL.out; omega)).mono ?_
      rintro ev w5 ⟨A5, cap5, ks5, rfl, -, -, -, hks, hb⟩
      have e5 := ksetS hks HKS.out
      subst e5
      have HB5 := Aside0.mk (below_step HB4.out hb)
      have HT5 := Aside0.mk (HT4.out.below hb)
      clear hks hb HB4 HT4 f1
      have f3 := F3.out
      have f4 := F4.out
      go_wp2_with fail
      refine (Ls.add HT5.out (by have := HL.out; omega) kk WFK.out (-ck - (n : Int)) (Li.rng_wf (by have := HN.out; have := HR.out; omega) (by have := HR.out; omega))).mono ?_
      rintro ev w6 ⟨rfl, hT, hg⟩
      rw [HCK.out, E3.out] at hT
      rw [HCK.out, E3.out]
      have HT6 := Aside0.mk hT
      have HB6 := Aside0.mk (HB5.out.grown hg HB5.out.size (fun j hj => by cases hj; exact HBB.out))
      clear hT hg HB5 HT5 f3 f4
      go_wp2_with fail
      refine (Ls.of' HT6.out kk WFK.out).mono ?_
      rintro ev w7 ⟨rfl, hw⟩
      rw [hw]
      have ec : Ls.updZ c kk 0 kk = 0 := by unfold Ls.updZ; rw [if_pos rfl]
      rw [ec]
      clear hw w7 ec
      go_wp2_with fail
      refine (Ls.keys HT6.out (by have := HL.out; omega)).mono ?_
      rintro ev w7 ⟨A7, cap7, ks7, rfl, -, -, -, hks, hb⟩
      have hle := kset_gone HKS.out hks (k := kk) (fun j => rfl)
      have g1 : decide ((ks7.length : Int) ≤ (ks5.length : Int)) = true := decide_eq_true (by omega)
      have g1n : decide (ks7.length ≤ ks5.length) = true := decide_eq_true hle
      have HB7 := Aside0.mk (below_step HB6.out hb)
      clear hks hb HB6 HT6 hle
      go_wp2_with fail
      refine (awake w7).mono ?_
      rintro ev w8 ⟨rfl, hb8⟩
      have HB8 := Aside0.mk (below_step HB7.out hb8)
      clear hb8
      go_wp2_with fail
      go_ret
      exact ⟨rfl, HB8.out⟩
theorem takesFinal (W : World) (A0 : Option Addr) (c0 : Nat) (l0 : List S33) (hc0 : l0.length ≤ c0) (hr0 : Kd.C k33 W A0 l0.length l0) (hm0 : l0.length ≤ maxLen) (hok0 : ∀ x ∈ l0, (Lit.int .i64 x.f0).wf = true ∧ (Lit.int .i64 x.f1).wf = true) (a1 : ByteArray) (w1 : a1.size ≤ maxLen) (a2 : Int) (w2 : (Lit.int .i64 a2).wf = true) :
    Calls Try.prog 5 #[.slice A0 l0.length c0, .string a1, .int .i64 a2] W fun e W' => e = .returned (.bool true) ∧ Below W.heap.size W W' := by
  have e : (.string a1 : Value) = encStr a1.data.toList := by
    show Value.string a1 = .string ⟨a1.data.toList.toArray⟩
    rw [Array.toArray_toList]
  rw [e]
  exact takes W A0 c0 l0 hr0 a1.data.toList (by rw [Array.length_toList]; exact w1) a2
end Go.Proofs.Ythnicdafglohbaa.Lw
