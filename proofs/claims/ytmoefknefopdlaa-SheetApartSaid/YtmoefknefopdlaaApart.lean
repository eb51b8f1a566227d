import Derived.Test.YtmoefknefopdlaaLw
import Derived.Deep.RegionWith
import Derived.Deep.QuietTactic
import Derived.BigQuiet
import Derived.Deep.DeepCutAuto
import Derived.Test.YtmoefknefopdlaaWTab
set_option linter.unusedVariables false
set_option linter.unusedSimpArgs false
/-! SheetApart: always true. -/
namespace Go.Proofs.Ytmoefknefopdlaa.Apart
open Go.RowKit Go.Proofs.YtmoefknefopdlaaW.PrintWords Go.Proofs.YtmoefknefopdlaaW.PrintLast Go.Proofs.YtmoefknefopdlaaW.PrintMore Go.Proofs.Ytmoefknefopdlaa.PAll Go.Proofs.Ytmoefknefopdlaa.Pl1 Go.Proofs.Ytmoefknefopdlaa.Pl2 Go.Proofs.Ytmoefknefopdlaa.St Go.Proofs.Ytmoefknefopdlaa.Sp Go.Proofs.Ytmoefknefopdlaa.Bd Go.Proofs.Ytmoefknefopdlaa.Lt Go.Proofs.Ytmoefknefopdlaa.Rdr Go.Proofs.Ytmoefknefopdlaa.Parse Go.Proofs.Ytmoefknefopdlaa.Lw
attribute [local go_sem] max2_int min2_int max_two min_two max_three min_three max_four min_four
/-- Two boxes. -/
def Inv2 (W : World) (s t : Nat) (p q : Int) (v : Value) (p' q' : Int) (v' : Value) (w : World) : Prop := Below W.heap.size W w ∧ w.heap[s]? = some (.cells #[.int .i64 p, .int .i64 q, v] 24 (0, 0)) ∧ w.heap[t]? = some (.cells #[.int .i64 p', .int .i64 q', v'] 24 (0, 0))
section
variable {W w w' : World} {s t : Nat} {p q p' q' : Int} {v v' : Value}
theorem Inv2.step (h : Inv2 W s t p q v p' q' v' w) (hb : Below w.heap.size w w') : Inv2 W s t p q v p' q' v' w' := ⟨below_step h.1 hb, (hb.block s (blk_lt h.2.1)).trans h.2.1, (hb.block t (blk_lt h.2.2)).trans h.2.2⟩
theorem Inv2.C (h : Inv2 W s t p q v p' q' v' w) {A : Option Addr} {d : List Int} (hC : Kd.C (Kd.int .u8) W A d.length d) : Kd.C (Kd.int .u8) w A d.length d := Kd.C_below hC h.1
theorem Inv2.start (W : World) (p q p' q' : Int) (v v' : Value) : Inv2 W W.heap.size (W.heap.size + 1) p q v p' q' v' ((W.alloc (.cells #[.int .i64 p, .int .i64 q, v] 24)).alloc (.cells #[.int .i64 p', .int .i64 q', v'] 24)) := by
  have h1 : Below W.heap.size W (W.alloc (.cells #[.int .i64 p, .int .i64 q, v] 24)) := below_alloc (Below.refl _ _) _
  have h2 := below_alloc (Below.refl _ (W.alloc (.cells #[.int .i64 p, .int .i64 q, v] 24))) (.cells #[.int .i64 p', .int .i64 q', v'] 24)
  have e1 : (W.alloc (.cells #[.int .i64 p, .int .i64 q, v] 24)).heap[W.heap.size]? = some (.cells #[.int .i64 p, .int .i64 q, v] 24 (0, 0)) := by simpa using heap_alloc_new W _
  refine ⟨below_step h1 h2, (h2.block _ (blk_lt e1)).trans e1, ?_⟩
  have e2 := heap_alloc_new (W.alloc (.cells #[.int .i64 p, .int .i64 q, v] 24)) (.cells #[.int .i64 p', .int .i64 q', v'] 24)
  simpa using e2
end
theorem Inv2.drew {W w : World} {s t : Nat} {p q p' q' : Int} {v v' : Value} (h : Inv2 W s t p q v p' q' v' w) : Inv2 W s t p q v p' q' v' w.drew := ⟨below_drew h.1, h.2.1, h.2.2⟩
/-- What the last region reads. -/
theorem held {W w : World} {s t : Nat} {p q p' q' : Int} {v v' : Value} {B B' : Value} {s1 s2 : ByteArray} (h : Inv2 W s t p q v p' q' v' w) (h1 : (convert 22 9 B).run Try.prog w = .ok (.string s1) w) (h2 : (convert 22 9 B').run Try.prog w = .ok (.string s2) w) :
    (w.cell? ⟨s, 0, none⟩ = some (.int .i64 p) ∧ w.cell? ⟨s, 1, none⟩ = some (.int .i64 q) ∧ w.cell? ⟨s, 2, none⟩ = some v) ∧ (w.cell? ⟨t, 0, none⟩ = some (.int .i64 p') ∧ w.cell? ⟨t, 1, none⟩ = some (.int .i64 q') ∧ w.cell? ⟨t, 2, none⟩ = some v') ∧ (convert 22 9 B).run Try.prog w = .ok (.string s1) w ∧ (convert 22 9 B').run Try.prog w = .ok (.string s2) w := by
  obtain ⟨a0, a1, a2, -⟩ := three h.2.1
  obtain ⟨b0, b1, b2, -⟩ := three h.2.2
  exact ⟨⟨a0, a1, a2⟩, ⟨b0, b1, b2⟩, h1, h2⟩
def f4r5.T : Bool × List (List Nat × List Nat) := (true, [([], []), ([0], [0]), ([1], [1]), ([2], [2]), ([3, 2], [2, 3]), ([2, 4], [2, 4]), ([5, 2], [5]), ([6], [6]), ([7, 6], [6, 7]), ([6], [6]), ([9, 6], [6, 9]), ([8, 10, 6], [6, 8, 10]), ([6], [6]), ([6], [6]), ([12, 13, 6, 6], [6, 12, 13]), ([11, 14, 6], [6, 11, 14]), ([6, 15], [6, 15]), ([16, 14], [16]), ([17, 17], [17]), ([17, 18], [17, 18]), ([19, 18, 0, 1, 2, 3, 4, 5, 6, 7, 8, 9, 10, 11, 12, 13, 14, 15, 16, 17, 18, 19], [19])])
def f4r5.B : List Nat := [0, 1, 3, 7, 15, 31, 63, 127, 255, 127, 639, 2047, 127, 127, 12415, 32767, 65535, 131071, 262143, 524287, 1048575]
theorem f4r5.tab : rtab .any (opsOf Try.f4 5) = f4r5.T := by kernel_rfl
theorem f4r5.bits : waitsOk f4r5.T.2 f4r5.B = true := by kernel_rfl
def sameB (p q : Int) (d : List Int) (p' q' : Int) (d' : List Int) : Bool := decide (p = p') && (decide (q = q') && ((strOfNums d).toList == (strOfNums d').toList))
theorem same_is (p q : Int) (d : List Int) (p' q' : Int) (d' : List Int) : potsherdref3_SameSheet.f p q d p' q' d' = some (sameB p q d p' q' d') := by
  unfold potsherdref3_SameSheet.f sameB
  by_cases h1 : p = p'
  · by_cases h2 : q = q'
    · simp [h1, h2]
    · simp [h1, h2]
  · simp [h1]
theorem apart_eq {p q p' q' : Int} {d d' : List Int} (hd : Bytes d) (hd' : Bytes d') (h : mayB p q d = true) (h' : mayB p' q' d' = true) : ((strOfNums (laidL p q d)).toList == (strOfNums (laidL p' q' d')).toList) = sameB p q d p' q' d' := by
  have l1 := (mayB_iff.1 h).2.2.2.2.1
  have l2 := (mayB_iff.1 h').2.2.2.2.1
  rw [Bool.eq_iff_iff]
  unfold sameB
  simp only [beq_iff_eq, Bool.and_eq_true, decide_eq_true_eq]
  constructor
  · intro e
    obtain ⟨rfl, rfl, rfl⟩ := laid_inj h h' (str_inj (laid_bytes hd (by omega)) (laid_bytes hd' (by omega)) e)
    exact ⟨rfl, rfl, rfl⟩
  · rintro ⟨rfl, rfl, e⟩
    rw [str_inj hd hd' e]
theorem conv {W : World} {A : Option Addr} {n c : Nat} {xs : List Int} {s : ByteArray} (h : Kd.C (Kd.int .u8) W A n xs) (hs : strOfNums xs = s) : (convert 22 9 (.slice A n c)).run Try.prog W = .ok (.string s) W := by
  rw [← hs]
  exact Kd.C_string Try.underlying22 Try.underlying5 Try.underlying9 h
set_option maxHeartbeats 4000000 in
set_option maxRecDepth 100000 in
theorem walk (W : World) (p q : Int) (A : Option Addr) (c : Nat) (d : List Int) (p' q' : Int) (A' : Option Addr) (c' : Nat) (d' : List Int) (hz : d.length ≤ c) (hC : Kd.C (Kd.int .u8) W A d.length d) (hz' : d'.length ≤ c') (hC' : Kd.C (Kd.int .u8) W A' d'.length d') (hb : Bytes d) (hb' : Bytes d') (h3 : d.length ≤ 3000 ∧ d'.length ≤ 3000) (hmay : mayB p q d = true) (hmay' : mayB p' q' d' = true) :
    Calls Try.prog 4 #[.agg #[.int .i64 p, .int .i64 q, .slice A d.length c], .agg #[.int .i64 p', .int .i64 q', .slice A' d'.length c']] W fun e w' => e = .returned (.bool true) ∧ Below W.heap.size W w' := by
  obtain ⟨kk, hk1, hk2, hk3, hk4⟩ : ∃ k, potsherdref3_MaySheet.f k p q d = some true ∧ potsherdref3_MaySheet.f k p' q' d' = some true ∧ sheet_Bytes.f k p q d = some (laidL p q d, 0) ∧ sheet_Bytes.f k p' q' d' = some (laidL p' q' d', 0) := by
    obtain ⟨k1, e1⟩ := refMay_ev p q d
    obtain ⟨k2, e2⟩ := refMay_ev p' q' d'
    obtain ⟨k3, e3⟩ := bytes_ev p q d
    obtain ⟨k4, e4⟩ := bytes_ev p' q' d'
    unfold bytesL at e3 e4
    rw [hmay] at e1
    rw [hmay'] at e2
    rw [if_pos hmay] at e3
    rw [if_pos hmay'] at e4
    exact ⟨k1 + k2 + k3 + k4, e1 _ (by omega), e2 _ (by omega), e3 _ (by omega), e4 _ (by omega)⟩
  have HAP := Aside0.mk (apart_eq hb hb' hmay hmay')
  have HK1 := Aside0.mk hk1
  have HK2 := Aside0.mk hk2
  have HK3 := Aside0.mk hk3
  have HK4 := Aside0.mk hk4
  have HZ := Aside0.mk hz
  have HC := Aside0.mk hC
  have HZ' := Aside0.mk hz'
  have HC' := Aside0.mk hC'
  have H3 := Aside0.mk h3
  clear hk1 hk2 hk3 hk4 hmay hmay' h3 hb hb' hz hC hz' hC'
  go_enter Try.func4, Try.ntmps4
  go_wp2_with fail
  obtain ⟨s, t, w1, hs, ht, hw1, hI⟩ : ∃ s t w1, W.heap.size = s ∧ W.heap.size + 1 = t ∧ (W.alloc (.cells #[.int .i64 p, .int .i64 q, .slice A d.length c] 24)).alloc (.cells #[.int .i64 p', .int .i64 q', .slice A' d'.length c'] 24) = w1 ∧ Inv2 W s t p q (.slice A d.length c) p' q' (.slice A' d'.length c') w1 := ⟨_, _, _, rfl, rfl, rfl, Inv2.start W _ _ _ _ _ _⟩
  have hs1 : W.heap.size + 1 + 1 = w1.heap.size := by rw [← hw1]; simp
  have HI1 := Aside0.mk hI
  rw [hs1, hw1, hs, show s + 1 = t by omega]
  clear hs ht hw1 hs1 hI
  refine (potsherdlaw5_light.calls 3 (some ⟨w1.heap.size, 0, none⟩) 2 [⟨p, q, d⟩, ⟨p', q', d'⟩] true _ (two_C HZ.out (HI1.out.C HC.out) HZ'.out (HI1.out.C HC'.out)) (Nat.le_refl _) (by rw [light2, decide_eq_true H3.out])).mono ?_
  rintro ev w2 ⟨rfl, hb⟩
  have HI2 := Aside0.mk ((HI1.out.step (below_alloc (Below.refl _ _) _)).step hb)
  clear hb HI1
  obtain ⟨q0, q1, q2, q3, q4, q5⟩ := three HI2.out.2.1
  go_wp2_with fail
  refine (potsherdref3_MaySheet.calls kk p q A c d true _ (HI2.out.C HC.out) HZ.out HK1.out).mono ?_
  rintro ev w3 ⟨rfl, hb⟩
  have HI3 := Aside0.mk (HI2.out.step hb)
  clear hb HI2 q0 q1 q2 q3 q4 q5
  obtain ⟨q0, q1, q2, q3, q4, q5⟩ := three HI3.out.2.2
  go_wp2_with fail
  refine (potsherdref3_MaySheet.calls kk p' q' A' c' d' true _ (HI3.out.C HC'.out) HZ'.out HK2.out).mono ?_
  rintro ev w4 ⟨rfl, hb⟩
  have HI4 := Aside0.mk (HI3.out.step hb)
  clear hb HI3 q0 q1 q2 q3 q4 q5
  obtain ⟨q0, q1, q2, q3, q4, q5⟩ := three HI4.out.2.1
  go_wp2_with fail
  refine (sheet_Bytes.calls kk p q A c d (laidL p q d) 0 _ (HI4.out.C HC.out) HZ.out HK3.out).mono ?_
  rintro ev w5 ⟨v, rfl, hR, hb⟩
  obtain ⟨B, cb, rfl, hzb, hCb⟩ := Kd.R_reads hR
  have HCB5 := Aside0.mk hCb
  have HI5 := Aside0.mk (HI4.out.step hb)
  clear hR hzb hCb hb HI4 q0 q1 q2 q3 q4 q5
  obtain ⟨q0, q1, q2, q3, q4, q5⟩ := three HI5.out.2.2
  go_wp2_with fail
  refine (sheet_Bytes.calls kk p' q' A' c' d' (laidL p' q' d') 0 _ (HI5.out.C HC'.out) HZ'.out HK4.out).mono ?_
  rintro ev w6 ⟨v, rfl, hR, hb⟩
  obtain ⟨B', cb', rfl, hzb, hCb⟩ := Kd.R_reads hR
  have HCB6' := Aside0.mk hCb
  have HCB6 := Aside0.mk (Kd.C_below HCB5.out hb)
  have HI6 := Aside0.mk (HI5.out.step hb)
  clear hR hzb hCb hb HI5 HCB5 q0 q1 q2 q3 q4 q5
  go_upto_region 5 with fail
  obtain ⟨L, hL⟩ : ∃ L, laidL p q d = L := ⟨_, rfl⟩
  obtain ⟨L', hL'⟩ : ∃ L', laidL p' q' d' = L' := ⟨_, rfl⟩
  rw [hL, hL'] at HAP
  rw [hL] at HCB6 ⊢
  rw [hL'] at HCB6' ⊢
  clear HK3 HK4 hL hL'
  obtain ⟨s1, hs1⟩ : ∃ s1, strOfNums L = s1 := ⟨_, rfl⟩
  obtain ⟨s2, hs2⟩ : ∃ s2, strOfNums L' = s2 := ⟨_, rfl⟩
  have HS1 := Aside0.mk hs1
  have HS2 := Aside0.mk hs2
  have hap := HAP.out
  rw [hs1, hs2] at hap
  obtain ⟨bb, hbb⟩ : ∃ bb, sameB p q d p' q' d' = bb := ⟨_, rfl⟩
  have HSM := Aside0.mk (show potsherdref3_SameSheet.f p q d p' q' d' = some bb by rw [same_is, hbb])
  rw [hbb] at hap
  clear HAP hs1 hs2 hbb
  have hbe : (bb == bb) = true := by simp
  refine start_ (n := 21) (S := fun w' => (w'.cell? ⟨s, 0, none⟩ = some (.int .i64 p) ∧ w'.cell? ⟨s, 1, none⟩ = some (.int .i64 q) ∧ w'.cell? ⟨s, 2, none⟩ = some (.slice A d.length c)) ∧ (w'.cell? ⟨t, 0, none⟩ = some (.int .i64 p') ∧ w'.cell? ⟨t, 1, none⟩ = some (.int .i64 q') ∧ w'.cell? ⟨t, 2, none⟩ = some (.slice A' d'.length c')) ∧ (convert 22 9 (.slice B L.length cb)).run Try.prog w' = .ok (.string s1) w' ∧ (convert 22 9 (.slice B' L'.length cb')).run Try.prog w' = .ok (.string s2) w') (ds := []) #[false, false, false, false, false, false, false, false, false, false, false, false, false, false, false, false, false, false, false, false, false] (by kernel_rfl) rfl rfl (held (Inv2.drew HI6.out) (conv (Kd.C_drew HCB6.out) HS1.out) (conv (Kd.C_drew HCB6'.out) HS2.out)) (fun hHeld => ?_)
  refine with_tabW f4r5.tab f4r5.bits (fun HT_ HW_ => ?_)
  refine pure_ (i := 0) (N := (some 35)) (v := ?_) (a' := ?_) #[true, false, false, false, false, false, false, false, false, false, false, false, false, false, false, false, false, false, false, false, false] rfl rfl (any_of HT_.out (by kernel_rfl)) (fun _ _ _ h => h) (Or.inl ⟨by rfl, ?_⟩) ?_ ?_
  rotate_left
  · intro w'
    go_simp
    first | done | with_reducible rfl
  rotate_left
  · simp only [Act.put, List.setIfInBounds_toArray, List.set_cons_zero, List.set_cons_succ, i64_w, i32_w]
    rfl
  refine pure_ (i := 1) (N := (some 36)) (v := ?_) (a' := ?_) #[true, true, false, false, false, false, false, false, false, false, false, false, false, false, false, false, false, false, false, false, false] rfl rfl (any_of HT_.out (by kernel_rfl)) (fun _ _ _ h => h) (Or.inl ⟨by rfl, ?_⟩) ?_ ?_
  rotate_left
  · intro w'
    go_simp
    first | done | with_reducible rfl
  rotate_left
  · simp only [Act.put, List.setIfInBounds_toArray, List.set_cons_zero, List.set_cons_succ, i64_w, i32_w]
    rfl
  refine pure_ (i := 2) (N := (some 37)) (v := ?_) (a' := ?_) #[true, true, true, false, false, false, false, false, false, false, false, false, false, false, false, false, false, false, false, false, false] rfl rfl (any_of HT_.out (by kernel_rfl)) (fun _ _ _ h => h) (Or.inl ⟨by rfl, ?_⟩) ?_ ?_
  rotate_left
  · intro w'
    go_simp
    first | done | with_reducible rfl
  rotate_left
  · simp only [Act.put, List.setIfInBounds_toArray, List.set_cons_zero, List.set_cons_succ, i64_w, i32_w]
    rfl
  refine pure_ (i := 3) (N := (some 38)) (v := ?_) (a' := ?_) #[true, true, true, true, false, false, false, false, false, false, false, false, false, false, false, false, false, false, false, false, false] rfl rfl (any_of HT_.out (by kernel_rfl)) (fun _ _ _ h => h) (Or.inl ⟨by rfl, ?_⟩) ?_ ?_
  rotate_left
  · intro w'
    go_simp
    first | done | with_reducible rfl
  rotate_left
  · simp only [Act.put, List.setIfInBounds_toArray, List.set_cons_zero, List.set_cons_succ, i64_w, i32_w]
    rfl
  refine pure_ (i := 4) (N := (some 39)) (v := ?_) (a' := ?_) #[true, true, true, true, true, false, false, false, false, false, false, false, false, false, false, false, false, false, false, false, false] rfl rfl (any_of HT_.out (by kernel_rfl)) (fun _ _ _ h => h) (Or.inl ⟨by rfl, ?_⟩) ?_ ?_
  rotate_left
  · intro w'
    go_simp
    first | done | with_reducible rfl
  rotate_left
  · simp only [Act.put, List.setIfInBounds_toArray, List.set_cons_zero, List.set_cons_succ, i64_w, i32_w]
    rfl
  refine pure_ (i := 5) (N := (some 40)) (v := ?_) (a' := ?_) #[true, true, true, true, true, true, false, false, false, false, false, false, false, false, false, false, false, false, false, false, false] rfl rfl (any_of HT_.out (by kernel_rfl)) (fun _ _ _ h => h) (Or.inl ⟨by rfl, ?_⟩) ?_ ?_
  rotate_left
  · intro w'
    go_simp
    first | done | with_reducible rfl
  rotate_left
  · simp only [Act.put, List.setIfInBounds_toArray, List.set_cons_zero, List.set_cons_succ, i64_w, i32_w]
    rfl
  refine pure_ (i := 6) (N := (some 41)) (v := ?_) (a' := ?_) #[true, true, true, true, true, true, true, false, false, false, false, false, false, false, false, false, false, false, false, false, false] rfl rfl (any_of HT_.out (by kernel_rfl)) (fun _ _ _ h => h) (Or.inl ⟨by rfl, ?_⟩) ?_ ?_
  rotate_left
  · intro w'
    go_simp
    first | done | with_reducible rfl
  rotate_left
  · simp only [Act.put, List.setIfInBounds_toArray, List.set_cons_zero, List.set_cons_succ, i64_w, i32_w]
    rfl
  refine pure_ (i := 7) (N := (some 42)) (v := ?_) (a' := ?_) #[true, true, true, true, true, true, true, true, false, false, false, false, false, false, false, false, false, false, false, false, false] rfl rfl (any_of HT_.out (by kernel_rfl)) (fun _ _ _ h => h) (Or.inl ⟨by rfl, ?_⟩) ?_ ?_
  rotate_left
  · intro w'
    go_simp
    first | done | with_reducible rfl
  rotate_left
  · simp only [Act.put, List.setIfInBounds_toArray, List.set_cons_zero, List.set_cons_succ, i64_w, i32_w]
    rfl
  refine take_ (i := 8) (N := (some 43)) (v := ?_) (a' := ?_) #[true, true, true, true, true, true, true, true, true, false, false, false, false, false, false, false, false, false, false, false, false] rfl rfl (take_ofW HT_.out HW_.out (by kernel_rfl)) (fun _ _ _ h => h) (Or.inl ⟨by rfl, ?_⟩) hHeld ?_ ?_
  rotate_left
  · rintro w' ⟨⟨s0, s1_, s2_⟩, ⟨s3, s4, s5⟩, s6, s7⟩
    go_simp
    first | done | with_reducible rfl
  rotate_left
  · simp only [Act.put, List.setIfInBounds_toArray, List.set_cons_zero, List.set_cons_succ, i64_w, i32_w]
    rfl
  refine pure_ (i := 9) (N := (some 44)) (v := ?_) (a' := ?_) #[true, true, true, true, true, true, true, true, true, true, false, false, false, false, false, false, false, false, false, false, false] rfl rfl (any_of HT_.out (by kernel_rfl)) (fun _ _ _ h => h) (Or.inl ⟨by rfl, ?_⟩) ?_ ?_
  rotate_left
  · intro w'
    go_simp
    first | done | with_reducible rfl
  rotate_left
  · simp only [Act.put, List.setIfInBounds_toArray, List.set_cons_zero, List.set_cons_succ, i64_w, i32_w]
    rfl
  refine take_ (i := 10) (N := (some 45)) (v := ?_) (a' := ?_) #[true, true, true, true, true, true, true, true, true, true, true, false, false, false, false, false, false, false, false, false, false] rfl rfl (take_ofW HT_.out HW_.out (by kernel_rfl)) (fun _ _ _ h => h) (Or.inl ⟨by rfl, ?_⟩) hHeld ?_ ?_
  rotate_left
  · rintro w' ⟨⟨s0, s1_, s2_⟩, ⟨s3, s4, s5⟩, s6, s7⟩
    go_simp
    first | done | with_reducible rfl
  rotate_left
  · simp only [Act.put, List.setIfInBounds_toArray, List.set_cons_zero, List.set_cons_succ, i64_w, i32_w]
    rfl
  refine pure_ (i := 11) (N := (some 46)) (v := ?_) (a' := ?_) #[true, true, true, true, true, true, true, true, true, true, true, true, false, false, false, false, false, false, false, false, false] rfl rfl (any_of HT_.out (by kernel_rfl)) (fun _ _ _ h => h) (Or.inl ⟨by rfl, ?_⟩) ?_ ?_
  rotate_left
  · intro w'
    go_simp
    first | done | with_reducible rfl
  rotate_left
  · simp only [Act.put, List.setIfInBounds_toArray, List.set_cons_zero, List.set_cons_succ, i64_w, i32_w]
    rfl
  refine take_ (i := 12) (N := (some 47)) (v := ?_) (a' := ?_) #[true, true, true, true, true, true, true, true, true, true, true, true, true, false, false, false, false, false, false, false, false] rfl rfl (take_ofW HT_.out HW_.out (by kernel_rfl)) (fun _ _ _ h => h) (Or.inl ⟨by rfl, ?_⟩) hHeld ?_ ?_
  rotate_left
  · rintro w' ⟨⟨s0, s1_, s2_⟩, ⟨s3, s4, s5⟩, s6, s7⟩
    go_simp
    first | done | with_reducible rfl
  rotate_left
  · simp only [Act.put, List.setIfInBounds_toArray, List.set_cons_zero, List.set_cons_succ, i64_w, i32_w]
    rfl
  refine take_ (i := 13) (N := (some 48)) (v := ?_) (a' := ?_) #[true, true, true, true, true, true, true, true, true, true, true, true, true, true, false, false, false, false, false, false, false] rfl rfl (take_ofW HT_.out HW_.out (by kernel_rfl)) (fun _ _ _ h => h) (Or.inl ⟨by rfl, ?_⟩) hHeld ?_ ?_
  rotate_left
  · rintro w' ⟨⟨s0, s1_, s2_⟩, ⟨s3, s4, s5⟩, s6, s7⟩
    go_simp
    first | done | with_reducible rfl
  rotate_left
  · simp only [Act.put, List.setIfInBounds_toArray, List.set_cons_zero, List.set_cons_succ, i64_w, i32_w]
    rfl
  refine one_ (i := 14) (N := (some 49)) #[true, true, true, true, true, true, true, true, true, true, true, true, true, true, true, false, false, false, false, false, false] rfl rfl (one_of HT_.out (by kernel_rfl)) (by decide) (fun K hK => ?_)
  refine goes_ Try.func15 (by kernel_rfl) rfl #[.agg #[.int .i64 p, .int .i64 q, .slice A d.length c], .agg #[.int .i64 p', .int .i64 q', .slice A' d'.length c']] (by rfl) rfl rfl (by (try simp only [List.map_toArray, List.map_cons, List.map_nil]); first | done | rfl) ?_
  with_reducible refine (potsherdref3_SameSheet.calls p q A c d p' q' A' c' d' bb _ (Kd.C_drew (HI6.out.C HC.out)) HZ.out (Kd.C_drew (HI6.out.C HC'.out)) HZ'.out HSM.out).mono ?_
  rintro ev_ w7 ⟨rfl, hb⟩
  refine ⟨_, rfl, ?_⟩
  have HI7 := Aside0.mk ((Inv2.drew HI6.out).step hb)
  have HCB7 := Aside0.mk (Kd.C_below (Kd.C_drew HCB6.out) hb)
  have HCB7' := Aside0.mk (Kd.C_below (Kd.C_drew HCB6'.out) hb)
  clear hb
  refine hK.out _ _ (held HI7.out (conv HCB7.out HS1.out) (conv HCB7'.out HS2.out)) (fun hHeld => ?_)
  clear hK K
  refine norm_ (a' := ?_) ?_ ?_
  rotate_left
  · show Act.put _ (some 49) _ = _
    simp only [Act.put, List.setIfInBounds_toArray, List.set_cons_zero, List.set_cons_succ, i64_w, i32_w]
    rfl
  refine pure_ (i := 15) (N := (some 50)) (v := ?_) (a' := ?_) #[true, true, true, true, true, true, true, true, true, true, true, true, true, true, true, true, false, false, false, false, false] rfl rfl (any_of HT_.out (by kernel_rfl)) (fun _ _ _ h => h) (Or.inl ⟨by rfl, ?_⟩) ?_ ?_
  rotate_left
  · intro w'
    go_simp
    first | done | with_reducible rfl
  rotate_left
  · simp only [Act.put, List.setIfInBounds_toArray, List.set_cons_zero, List.set_cons_succ, i64_w, i32_w]
    rfl
  refine pure_ (i := 16) (N := (some 51)) (v := ?_) (a' := ?_) #[true, true, true, true, true, true, true, true, true, true, true, true, true, true, true, true, true, false, false, false, false] rfl rfl (any_of HT_.out (by kernel_rfl)) (fun _ _ _ h => h) (Or.inl ⟨by rfl, ?_⟩) ?_ ?_
  rotate_left
  · intro w'
    go_simp
    first | done | with_reducible rfl
  rotate_left
  · simp only [Act.put, List.setIfInBounds_toArray, List.set_cons_zero, List.set_cons_succ, i64_w, i32_w]
    rfl
  refine pure_ (i := 17) (N := (some 52)) (v := ?_) (a' := ?_) #[true, true, true, true, true, true, true, true, true, true, true, true, true, true, true, true, true, true, false, false, false] rfl rfl (any_of HT_.out (by kernel_rfl)) (fun _ _ _ h => h) (Or.inl ⟨by rfl, ?_⟩) ?_ ?_
  rotate_left
  · intro w'
    go_simp
    first | done | with_reducible rfl
  rotate_left
  · simp only [Act.put, List.setIfInBounds_toArray, List.set_cons_zero, List.set_cons_succ, i64_w, i32_w]
    rfl
  refine one_ (i := 18) (N := (some 53)) #[true, true, true, true, true, true, true, true, true, true, true, true, true, true, true, true, true, true, true, false, false] rfl rfl (one_of HT_.out (by kernel_rfl)) (by decide) (fun K hK => ?_)
  refine goes_ Try.func12 (by kernel_rfl) rfl #[] (by rfl) rfl rfl (by (try simp only [List.map_toArray, List.map_cons, List.map_nil]); first | done | rfl) ?_
  with_reducible refine (Aw.awake w7).mono ?_
  rintro ev_ w8 ⟨rfl, hb⟩
  refine ⟨_, rfl, ?_⟩
  have HI8 := Aside0.mk (HI7.out.step hb)
  have HCB8 := Aside0.mk (Kd.C_below HCB7.out hb)
  have HCB8' := Aside0.mk (Kd.C_below HCB7'.out hb)
  clear hb
  refine hK.out _ _ (held HI8.out (conv HCB8.out HS1.out) (conv HCB8'.out HS2.out)) (fun hHeld => ?_)
  clear hK K
  refine norm_ (a' := ?_) ?_ ?_
  rotate_left
  · show Act.put _ (some 53) _ = _
    simp only [Act.put, List.setIfInBounds_toArray, List.set_cons_zero, List.set_cons_succ, i64_w, i32_w]
    rfl
  refine pure_ (i := 19) (N := (some 54)) (v := ?_) (a' := ?_) #[true, true, true, true, true, true, true, true, true, true, true, true, true, true, true, true, true, true, true, true, false] rfl rfl (any_of HT_.out (by kernel_rfl)) (fun _ _ _ h => h) (Or.inl ⟨by rfl, ?_⟩) ?_ ?_
  rotate_left
  · intro w'
    go_simp
    first | done | with_reducible rfl
  rotate_left
  · simp only [Act.put, List.setIfInBounds_toArray, List.set_cons_zero, List.set_cons_succ, i64_w, i32_w]
    rfl
  refine pure_ (i := 20) (N := (some 4)) (v := ?_) (a' := ?_) #[true, true, true, true, true, true, true, true, true, true, true, true, true, true, true, true, true, true, true, true, true] rfl rfl (any_of HT_.out (by kernel_rfl)) (fun _ _ _ h => h) (Or.inl ⟨by rfl, ?_⟩) ?_ ?_
  rotate_left
  · intro w'
    go_simp
    first | done | with_reducible rfl
  rotate_left
  · simp only [Act.put, List.setIfInBounds_toArray, List.set_cons_zero, List.set_cons_succ, i64_w, i32_w]
    rfl
  refine done_ (done_of HT_.out (by kernel_rfl)) ?_
  go_wp2
  go_ret
  exact ⟨rfl, HI8.out.1⟩
set_option maxHeartbeats 4000000 in
set_option maxRecDepth 100000 in
theorem heavy (W : World) (p q : Int) (A : Option Addr) (c : Nat) (d : List Int) (p' q' : Int) (A' : Option Addr) (c' : Nat) (d' : List Int) (hz : d.length ≤ c) (hC : Kd.C (Kd.int .u8) W A d.length d) (hz' : d'.length ≤ c') (hC' : Kd.C (Kd.int .u8) W A' d'.length d') (h3 : ¬ (d.length ≤ 3000 ∧ d'.length ≤ 3000)) :
    Calls Try.prog 4 #[.agg #[.int .i64 p, .int .i64 q, .slice A d.length c], .agg #[.int .i64 p', .int .i64 q', .slice A' d'.length c']] W fun e w' => e = .returned (.bool true) ∧ Below W.heap.size W w' := by
  have HZ := Aside0.mk hz
  have HC := Aside0.mk hC
  have HZ' := Aside0.mk hz'
  have HC' := Aside0.mk hC'
  have H3 := Aside0.mk h3
  clear h3 hz hC hz' hC'
  go_enter Try.func4, Try.ntmps4
  go_wp2_with fail
  obtain ⟨s, t, w1, hs, ht, hw1, hI⟩ : ∃ s t w1, W.heap.size = s ∧ W.heap.size + 1 = t ∧ (W.alloc (.cells #[.int .i64 p, .int .i64 q, .slice A d.length c] 24)).alloc (.cells #[.int .i64 p', .int .i64 q', .slice A' d'.length c'] 24) = w1 ∧ Inv2 W s t p q (.slice A d.length c) p' q' (.slice A' d'.length c') w1 := ⟨_, _, _, rfl, rfl, rfl, Inv2.start W _ _ _ _ _ _⟩
  have hs1 : W.heap.size + 1 + 1 = w1.heap.size := by rw [← hw1]; simp
  have HI1 := Aside0.mk hI
  rw [hs1, hw1, hs, show s + 1 = t by omega]
  clear hs ht hw1 hs1 hI
  refine (potsherdlaw5_light.calls 3 (some ⟨w1.heap.size, 0, none⟩) 2 [⟨p, q, d⟩, ⟨p', q', d'⟩] false _ (two_C HZ.out (HI1.out.C HC.out) HZ'.out (HI1.out.C HC'.out)) (Nat.le_refl _) (by rw [light2, decide_eq_false H3.out])).mono ?_
  rintro ev w2 ⟨rfl, hb⟩
  have HI2 := Aside0.mk ((HI1.out.step (below_alloc (Below.refl _ _) _)).step hb)
  clear hb HI1
  go_wp2_with fail
  refine (Aw.awake _).mono ?_
  rintro ev w9 ⟨rfl, hb⟩
  have HB9 := Aside0.mk (below_step HI2.out.1 hb)
  clear hb
  go_wp2_with fail
  go_ret
  exact ⟨rfl, HB9.out⟩
set_option maxHeartbeats 4000000 in
set_option maxRecDepth 100000 in
theorem not_may1 (W : World) (p q : Int) (A : Option Addr) (c : Nat) (d : List Int) (p' q' : Int) (A' : Option Addr) (c' : Nat) (d' : List Int) (hz : d.length ≤ c) (hC : Kd.C (Kd.int .u8) W A d.length d) (hz' : d'.length ≤ c') (hC' : Kd.C (Kd.int .u8) W A' d'.length d') (h3 : d.length ≤ 3000 ∧ d'.length ≤ 3000) (hmay : mayB p q d = false) :
    Calls Try.prog 4 #[.agg #[.int .i64 p, .int .i64 q, .slice A d.length c], .agg #[.int .i64 p', .int .i64 q', .slice A' d'.length c']] W fun e w' => e = .returned (.bool true) ∧ Below W.heap.size W w' := by
  obtain ⟨kk, hk1⟩ := (refMay_ev p q d).rounds
  rw [hmay] at hk1
  have HK1 := Aside0.mk hk1
  clear hk1 hmay
  have HZ := Aside0.mk hz
  have HC := Aside0.mk hC
  have HZ' := Aside0.mk hz'
  have HC' := Aside0.mk hC'
  have H3 := Aside0.mk h3
  clear h3 hz hC hz' hC'
  go_enter Try.func4, Try.ntmps4
  go_wp2_with fail
  obtain ⟨s, t, w1, hs, ht, hw1, hI⟩ : ∃ s t w1, W.heap.size = s ∧ W.heap.size + 1 = t ∧ (W.alloc (.cells #[.int .i64 p, .int .i64 q, .slice A d.length c] 24)).alloc (.cells #[.int .i64 p', .int .i64 q', .slice A' d'.length c'] 24) = w1 ∧ Inv2 W s t p q (.slice A d.length c) p' q' (.slice A' d'.length c') w1 := ⟨_, _, _, rfl, rfl, rfl, Inv2.start W _ _ _ _ _ _⟩
  have hs1 : W.heap.size + 1 + 1 = w1.heap.size := by rw [← hw1]; simp
  have HI1 := Aside0.mk hI
  rw [hs1, hw1, hs, show s + 1 = t by omega]
  clear hs ht hw1 hs1 hI
  refine (potsherdlaw5_light.calls 3 (some ⟨w1.heap.size, 0, none⟩) 2 [⟨p, q, d⟩, ⟨p', q', d'⟩] true _ (two_C HZ.out (HI1.out.C HC.out) HZ'.out (HI1.out.C HC'.out)) (Nat.le_refl _) (by rw [light2, decide_eq_true H3.out])).mono ?_
  rintro ev w2 ⟨rfl, hb⟩
  have HI2 := Aside0.mk ((HI1.out.step (below_alloc (Below.refl _ _) _)).step hb)
  clear hb HI1
  obtain ⟨q0, q1, q2, q3, q4, q5⟩ := three HI2.out.2.1
  go_wp2_with fail
  refine (potsherdref3_MaySheet.calls kk p q A c d false _ (HI2.out.C HC.out) HZ.out HK1.out).mono ?_
  rintro ev w3 ⟨rfl, hb⟩
  have HI3 := Aside0.mk (HI2.out.step hb)
  clear hb HI2 q0 q1 q2 q3 q4 q5
  go_wp2_with fail
  refine (Aw.awake _).mono ?_
  rintro ev w9 ⟨rfl, hb⟩
  have HB9 := Aside0.mk (below_step HI3.out.1 hb)
  clear hb
  go_wp2_with fail
  go_ret
  exact ⟨rfl, HB9.out⟩
set_option maxHeartbeats 4000000 in
set_option maxRecDepth 100000 in
theorem not_may2 (W : World) (p q : Int) (A : Option Addr) (c : Nat) (d : List Int) (p' q' : Int) (A' : Option Addr) (c' : Nat) (d' : List Int) (hz : d.length ≤ c) (hC : Kd.C (Kd.int .u8) W A d.length d) (hz' : d'.length ≤ c') (hC' : Kd.C (Kd.int .u8) W A' d'.length d') (h3 : d.length ≤ 3000 ∧ d'.length ≤ 3000) (hmay : mayB p q d = true) (hmay' : mayB p' q' d' = false) :
    Calls Try.prog 4 #[.agg #[.int .i64 p, .int .i64 q, .slice A d.length c], .agg #[.int .i64 p', .int .i64 q', .slice A' d'.length c']] W fun e w' => e = .returned (.bool true) ∧ Below W.heap.size W w' := by
  obtain ⟨kk, hk1, hk2⟩ : ∃ k, potsherdref3_MaySheet.f k p q d = some true ∧ potsherdref3_MaySheet.f k p' q' d' = some false := by
    obtain ⟨k1, e1⟩ := refMay_ev p q d
    obtain ⟨k2, e2⟩ := refMay_ev p' q' d'
    rw [hmay] at e1
    rw [hmay'] at e2
    exact ⟨k1 + k2, e1 _ (by omega), e2 _ (by omega)⟩
  have HK1 := Aside0.mk hk1
  have HK2 := Aside0.mk hk2
  clear hk1 hk2 hmay hmay'
  have HZ := Aside0.mk hz
  have HC := Aside0.mk hC
  have HZ' := Aside0.mk hz'
  have HC' := Aside0.mk hC'
  have H3 := Aside0.mk h3
  clear h3 hz hC hz' hC'
  go_enter Try.func4, Try.ntmps4
  go_wp2_with fail
  obtain ⟨s, t, w1, hs, ht, hw1, hI⟩ : ∃ s t w1, W.heap.size = s ∧ W.heap.size + 1 = t ∧ (W.alloc (.cells #[.int .i64 p, .int .i64 q, .slice A d.length c] 24)).alloc (.cells #[.int .i64 p', .int .i64 q', .slice A' d'.length c'] 24) = w1 ∧ Inv2 W s t p q (.slice A d.length c) p' q' (.slice A' d'.length c') w1 := ⟨_, _, _, rfl, rfl, rfl, Inv2.start W _ _ _ _ _ _⟩
  have hs1 : W.heap.size + 1 + 1 = w1.heap.size := by rw [← hw1]; simp
  have HI1 := Aside0.mk hI
  rw [hs1, hw1, hs, show s + 1 = t by omega]
  clear hs ht hw1 hs1 hI
  refine (potsherdlaw5_light.calls 3 (some ⟨w1.heap.size, 0, none⟩) 2 [⟨p, q, d⟩, ⟨p', q', d'⟩] true _ (two_C HZ.out (HI1.out.C HC.out) HZ'.out (HI1.out.C HC'.out)) (Nat.le_refl _) (by rw [light2, decide_eq_true H3.out])).mono ?_
  rintro ev w2 ⟨rfl, hb⟩
  have HI2 := Aside0.mk ((HI1.out.step (below_alloc (Below.refl _ _) _)).step hb)
  clear hb HI1
  obtain ⟨q0, q1, q2, q3, q4, q5⟩ := three HI2.out.2.1
  go_wp2_with fail
  refine (potsherdref3_MaySheet.calls kk p q A c d true _ (HI2.out.C HC.out) HZ.out HK1.out).mono ?_
  rintro ev w3 ⟨rfl, hb⟩
  have HI3 := Aside0.mk (HI2.out.step hb)
  clear hb HI2 q0 q1 q2 q3 q4 q5
  obtain ⟨q0, q1, q2, q3, q4, q5⟩ := three HI3.out.2.2
  go_wp2_with fail
  refine (potsherdref3_MaySheet.calls kk p' q' A' c' d' false _ (HI3.out.C HC'.out) HZ'.out HK2.out).mono ?_
  rintro ev w4 ⟨rfl, hb⟩
  have HI4 := Aside0.mk (HI3.out.step hb)
  clear hb HI3 q0 q1 q2 q3 q4 q5
  go_wp2_with fail
  refine (Aw.awake _).mono ?_
  rintro ev w9 ⟨rfl, hb⟩
  have HB9 := Aside0.mk (below_step HI4.out.1 hb)
  clear hb
  go_wp2_with fail
  go_ret
  exact ⟨rfl, HB9.out⟩
theorem final (W : World) (cs : Array Value) (x : S24) (hK : k24.K W x cs.toList) (hok : Ok24 x) (cs' : Array Value) (x' : S24) (hK' : k24.K W x' cs'.toList) (hok' : Ok24 x') :
    Calls Try.prog 4 #[.agg cs, .agg cs'] W fun e w' => e = .returned (.bool true) ∧ Below W.heap.size W w' := by
  obtain ⟨A, c, rfl, hz, hC⟩ := agg_of hK
  obtain ⟨A', c', rfl, hz', hC'⟩ := agg_of hK'
  by_cases h3 : x.f2.length ≤ 3000 ∧ x'.f2.length ≤ 3000
  · cases hmay : mayB x.f0 x.f1 x.f2 with
    | false => exact not_may1 W x.f0 x.f1 A c x.f2 x'.f0 x'.f1 A' c' x'.f2 hz hC hz' hC' h3 hmay
    | true =>
      cases hmay' : mayB x'.f0 x'.f1 x'.f2 with
      | false => exact not_may2 W x.f0 x.f1 A c x.f2 x'.f0 x'.f1 A' c' x'.f2 hz hC hz' hC' h3 hmay hmay'
      | true => exact walk W x.f0 x.f1 A c x.f2 x'.f0 x'.f1 A' c' x'.f2 hz hC hz' hC' (bytes_of hok.2.2.2) (bytes_of hok'.2.2.2) h3 hmay hmay'
  · exact heavy W x.f0 x.f1 A c x.f2 x'.f0 x'.f1 A' c' x'.f2 hz hC hz' hC' h3
end Go.Proofs.Ytmoefknefopdlaa.Apart
