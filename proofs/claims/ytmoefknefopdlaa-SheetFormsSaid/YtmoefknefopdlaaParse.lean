import Derived.Test.YtmoefknefopdlaaSp
import Derived.Deep.RegionWith
import Derived.Deep.QuietTactic
import Derived.BigQuiet
import Derived.Deep.DeepCutAuto
set_option linter.unusedVariables false
set_option linter.unusedSimpArgs false
/-! sheet.Parse: what it answers. -/
namespace Go.Proofs.Ytmoefknefopdlaa.Parse
open Go.RowKit Go.Proofs.YtmoefknefopdlaaW.PrintWords Go.Proofs.YtmoefknefopdlaaW.PrintLast Go.Proofs.YtmoefknefopdlaaW.PrintMore Go.Proofs.Ytmoefknefopdlaa.PAll Go.Proofs.Ytmoefknefopdlaa.Rdr Go.Proofs.Ytmoefknefopdlaa.St Go.Proofs.Ytmoefknefopdlaa.Sp
attribute [local go_sem] max2_int min2_int max_two min_two max_three min_three max_four min_four
theorem box_after {w w2 : World} {g b t : Nat} {cs : Array Value} (h : w.heap[b]? = some (.cells cs t (0, 0))) (hk : KeepBut w w2 g none) (hne : b ≠ g) : w2.heap[b]? = some (.cells cs t (0, 0)) := hk.blk h hne (by simp)
theorem numStep_suf (b : List Int) (e m : Int) : (numStep b e m).2.1 <:+ b := by
  unfold numStep
  split
  · split
    · exact List.suffix_refl _
    · split
      · exact List.suffix_refl _
      · exact List.drop_suffix _ _
  · exact List.suffix_refl _
theorem textStep_suf (b : List Int) (e m : Int) : (textStep b e m).2.1 <:+ b := by
  unfold textStep
  split
  · split
    · exact List.suffix_refl _
    · split
      · exact List.suffix_refl _
      · exact List.drop_suffix _ _
  · exact List.suffix_refl _
theorem int_at {w : World} {k : IntKind} {A : Option Addr} {n : Nat} {xs : List Int} (h : (Kd.int k).C w A n xs) (j : Nat) (hj : j < n) : ∃ ad, A = some ad ∧ w.cell? (ad.add j) = some (.int k (xs.getD j 0)) := by
  obtain ⟨ad, c, e, _, hK, hc⟩ := Kd.C_get h 0 (j : Int) (by omega) (by omega)
  have hk : c = [.int k (xs.getD j 0)] := hK
  refine ⟨ad, e, ?_⟩
  have hz := hc 0 (.int k (xs.getD j 0)) (by rw [hk]; rfl)
  simpa [Kd.int, Kd.scalar] using hz
/-- What a walk wants of a block of three cells. -/
theorem three {w : World} {b t : Nat} {x y z : Value} (h : w.heap[b]? = some (.cells #[x, y, z] t (0, 0))) :
    w.cell? ⟨b, 0, none⟩ = some x ∧ w.cell? ⟨b, 1, none⟩ = some y ∧ w.cell? ⟨b, 2, none⟩ = some z ∧ w.frozen? ⟨b, 0, none⟩ = false ∧ w.frozen? ⟨b, 1, none⟩ = false ∧ w.frozen? ⟨b, 2, none⟩ = false :=
  ⟨(blk_cell h 0).trans rfl, (blk_cell h 1).trans rfl, (blk_cell h 2).trans rfl, blk_frozen h 0, blk_frozen h 1, blk_frozen h 2⟩
theorem three_set {w : World} {b t : Nat} {x y z : Value} (h : w.heap[b]? = some (.cells #[x, y, z] t (0, 0))) (x' y' z' : Value) :
    (((w.setCell ⟨b, 0, none⟩ x').setCell ⟨b, 1, none⟩ y').setCell ⟨b, 2, none⟩ z').heap[b]? = some (.cells #[x', y', z'] t (0, 0)) := by
  have h1 : (w.setCell ⟨b, 0, none⟩ x').heap[b]? = some (.cells #[x', y, z] t (0, 0)) := by simpa using blk_set h 0 x'
  have h2 : ((w.setCell ⟨b, 0, none⟩ x').setCell ⟨b, 1, none⟩ y').heap[b]? = some (.cells #[x', y', z] t (0, 0)) := by simpa using blk_set h1 1 y'
  simpa using blk_set h2 2 z'
set_option maxHeartbeats 4000000 in
set_option maxRecDepth 100000 in
theorem parse_walk (A0 : Option Addr) (c0 : Nat) (b : List Int) (w : World) (hr0 : Kd.C (Kd.int .u8) w A0 b.length b) (hc0 : b.length ≤ c0) (hf : Fine b) :
    Calls Try.prog 14 #[.slice A0 b.length c0] w fun e w' => ∃ v2_ : Value, e = .returned (.tuple #[.agg #[.int .i64 (parseL b).1, .int .i64 (parseL b).2.1, v2_], .int .i64 (parseL b).2.2.2]) ∧ Kd.R (Kd.int .u8) 5 w' w.heap.size (fun _ => True) v2_ (parseL b).2.2.1 ∧ Below w.heap.size w w' := by
  obtain ⟨v1, l1, e1, h1⟩ : ∃ v1 l1 e1, numStep b 0 60 = (v1, l1, e1) := ⟨_, _, _, rfl⟩
  obtain ⟨v2, l2, e2, h2⟩ : ∃ v2 l2 e2, numStep l1 e1 1099511627776 = (v2, l2, e2) := ⟨_, _, _, rfl⟩
  obtain ⟨v3, l3, e3, h3⟩ : ∃ v3 l3 e3, textStep l2 e2 2000 = (v3, l3, e3) := ⟨_, _, _, rfl⟩
  have hf1 : Fine l1 := by have := numStep_fine hf 0 60; rw [h1] at this; exact this
  have hf2 : Fine l2 := by have := numStep_fine hf1 e1 1099511627776; rw [h2] at this; exact this
  have hP : parseL b = if e3 = 0 ∧ l3 = [90] ∧ mayB v1 v2 v3 = true then (v1, v2, v3, 0) else (0, 0, [], 5) := by
    unfold parseL parse3; rw [h1]; simp only; rw [h2]; simp only; rw [h3]
  have HP := Aside0.mk hP
  have H1 := Aside0.mk h1
  have H2 := Aside0.mk h2
  have H3 := Aside0.mk h3
  have HF1 := Aside0.mk hf1
  have HF2 := Aside0.mk hf2
  clear hP h1 h2 h3 hf1 hf2
  have HR0 := Aside0.mk hr0
  have HC0 := Aside0.mk hc0
  have HF := Aside0.mk hf
  clear hr0 hc0 hf
  rw [HP.out]
  obtain ⟨R, hR⟩ : ∃ R, (if e3 = 0 ∧ l3 = [90] ∧ mayB v1 v2 v3 = true then (v1, v2, v3, 0) else ((0 : Int), (0 : Int), ([] : List Int), (5 : Int))) = R := ⟨_, rfl⟩
  have HRe := Aside0.mk hR
  rw [hR]
  clear hR
  go_enter Try.func14, Try.ntmps14
  go_wp2_with fail
  obtain ⟨sb, hsb⟩ : ∃ sb, w.heap.size = sb := ⟨_, rfl⟩
  obtain ⟨ws, hws⟩ : ∃ ws, w.alloc (.cells #[.int .i64 0, .int .i64 0, .slice none 0 0] 24) = ws := ⟨_, rfl⟩
  have HBX : Aside0 (ws.heap[sb]? = some (.cells #[.int .i64 0, .int .i64 0, .slice none 0 0] 24 (0, 0))) := ⟨by rw [← hsb, ← hws]; simpa using heap_alloc_new w _⟩
  have HSB := Aside0.mk hsb
  have HBs : Aside0 (Below w.heap.size w ws) := ⟨by rw [← hws]; exact below_alloc (Below.refl _ _) _⟩
  have HRs : Aside0 (Kd.C (Kd.int .u8) ws A0 b.length b) := ⟨by rw [← hws]; exact Kd.C_alloc HR0.out _⟩
  rw [hsb, hws]
  clear hsb hws
  refine (newReader ws A0 c0 b HRs.out HC0.out HF.out.2).mono ?_
  rintro ev w1 ⟨g, u, rfl, hI, hb, hB⟩
  have HI1 := Aside0.mk hI
  have HB1 := Aside0.mk hB
  have HU := Aside0.mk hb
  have HX1 := Aside0.mk (((below_step hb hB).block sb (blk_lt HBX.out)).trans HBX.out)
  have HSBG := Aside0.mk (show sb ≠ g by have := hI.ge; have := hb.size; have := blk_lt HBX.out; omega)
  clear hI hb hB
  go_wp2_with fail
  refine (own_numberE H1.out HI1.out HB1.out HF.out).mono ?_
  rintro ev w2 ⟨rfl, hI, hB, hK⟩
  have HX2 := Aside0.mk (box_after HX1.out hK HSBG.out)
  have HI2 := Aside0.mk hI
  have HB2 := Aside0.mk hB
  clear hI hB hK HI1 HB1 HX1
  go_wp2_with fail
  refine (own_numberE H2.out HI2.out HB2.out HF1.out).mono ?_
  rintro ev w3 ⟨rfl, hI, hB, hK⟩
  have HX3 := Aside0.mk (box_after HX2.out hK HSBG.out)
  have HI3 := Aside0.mk hI
  have HB3 := Aside0.mk hB
  clear hI hB hK HI2 HB2 HX2
  go_wp2_with fail
  obtain ⟨tb, htb⟩ : ∃ tb, w3.heap.size = tb := ⟨_, rfl⟩
  have hge : g ≠ tb := by have := HI3.out.lt; omega
  have hsb : sb ≠ tb := by have := blk_lt HX3.out; omega
  have HXt : Aside0 ((w3.alloc (.cells #[.int .i64 v1, .int .i64 v2, .slice none 0 0] 24)).heap[tb]? = some (.cells #[.int .i64 v1, .int .i64 v2, .slice none 0 0] 24 (0, 0))) := ⟨by rw [← htb]; simpa using heap_alloc_new w3 _⟩
  have HI3a : Aside0 (IsRd 57 u (w3.alloc (.cells #[.int .i64 v1, .int .i64 v2, .slice none 0 0] 24)) g l2 e2) := ⟨HI3.out.below (below_alloc (Below.refl _ _) _)⟩
  have HB3a : Aside0 (Below u.heap.size u (w3.alloc (.cells #[.int .i64 v1, .int .i64 v2, .slice none 0 0] 24))) := ⟨below_weaken HB3.out HB3.out.size (below_alloc (Below.refl _ _) _)⟩
  have HX3a : Aside0 ((w3.alloc (.cells #[.int .i64 v1, .int .i64 v2, .slice none 0 0] 24)).heap[sb]? = some (.cells #[.int .i64 0, .int .i64 0, .slice none 0 0] 24 (0, 0))) := ⟨((below_alloc (Below.refl _ _) _).block sb (blk_lt HX3.out)).trans HX3.out⟩
  have HTU := Aside0.mk (show u.heap.size ≤ tb by rw [← htb]; exact HB3.out.size)
  have HGE := Aside0.mk hge
  have HSBT := Aside0.mk hsb
  clear hge hsb HI3 HB3 HX3
  rw [htb]
  obtain ⟨wt, hwt⟩ : ∃ wt, w3.alloc (.cells #[.int .i64 v1, .int .i64 v2, .slice none 0 0] 24) = wt := ⟨_, rfl⟩
  rw [hwt] at HXt HI3a HB3a HX3a ⊢
  have HXs3 := HX3a
  clear hwt htb
  refine (own_textE H3.out HI3a.out HB3a.out HF2.out).mono ?_
  rintro ev w4 ⟨tv, rfl, hR, hI, hB, hK⟩
  obtain ⟨A4, c4, rfl, hz4, hC4⟩ := Kd.R_reads hR
  have hx4 := box_after HXt.out hK HGE.out.symm
  have hs4 := box_after HX3a.out hK HSBG.out
  have hfz := blk_frozen hx4 2
  have hcz : w4.cell? ⟨tb, 2, none⟩ = some (.slice none 0 0) := (blk_cell hx4 2).trans rfl
  obtain ⟨w5, hw5⟩ : ∃ w5, w4.setCell ⟨tb, 2, none⟩ (.slice A4 v3.length c4) = w5 := ⟨_, rfl⟩
  have HW5 := Aside0.mk hw5
  have HXt5 : Aside0 (w5.heap[tb]? = some (.cells #[.int .i64 v1, .int .i64 v2, .slice A4 v3.length c4] 24 (0, 0))) := ⟨by rw [← hw5]; simpa using blk_set hx4 2 (.slice A4 v3.length c4)⟩
  have HXs5 : Aside0 (w5.heap[sb]? = some (.cells #[.int .i64 0, .int .i64 0, .slice none 0 0] 24 (0, 0))) := ⟨by rw [← hw5]; exact (Below.heap_setCell w4 _ _ sb HSBT.out).trans hs4⟩
  have HI5 : Aside0 (IsRd 57 u w5 g l3 e3) := ⟨by rw [← hw5]; exact hI.keep (Below.heap_setCell w4 _ _ g HGE.out)⟩
  have HB5 : Aside0 (Below u.heap.size u w5) := ⟨by rw [← hw5]; exact hB.setCell HTU.out _⟩
  have HR5 : Aside0 (Kd.R (Kd.int .u8) 5 w5 u.heap.size (fun k_ => wt.heap.size ≤ k_) (.slice A4 v3.length c4) v3) := ⟨by rw [← hw5]; exact Kd.R_far (p := ⟨tb, 2, none⟩) hR (fun k hk => by have := blk_lt HXt.out; have h2 : wt.heap.size ≤ k := hk; show k ≠ tb; omega) _⟩
  have HZ4 := Aside0.mk hz4
  clear hw5 hx4 hs4 hI hB hK hR hz4 hC4 HI3a HB3a HX3a
  have hs3 : l3 <:+ b := by
    have s1 := numStep_suf b 0 60
    have s2 := numStep_suf l1 e1 1099511627776
    have s3 := textStep_suf l2 e2 2000
    rw [H1.out] at s1
    rw [H2.out] at s2
    rw [H3.out] at s3
    exact s3.trans (s2.trans s1)
  have HS3 := Aside0.mk hs3
  have HRb5 := Aside0.mk (Kd.C_below HRs.out (below_step HU.out HB5.out))
  have HSW := Aside0.mk (show w.heap.size ≤ sb by rw [HSB.out]; exact Nat.le_refl _)
  have HWA := Aside0.mk (below_step (below_step HBs.out HU.out) HB5.out)
  obtain ⟨p0, p1, p2, p3, p4, p5⟩ := three HXs5.out
  obtain ⟨q0, q1, q2, q3, q4, q5⟩ := three HXt5.out
  clear hs3
  by_cases k0 : e3 = 0
  · subst k0
    by_cases k1 : l3.length = 1
    · obtain ⟨z, rfl⟩ := List.length_eq_one_iff.1 k1
      have hlen : 0 < b.length := by obtain ⟨pre, hp⟩ := HS3.out; rw [← hp]; simp
      obtain ⟨ad, rfl, hx⟩ := int_at HRb5.out (b.length - 1) (by omega)
      have hz : b.getD (b.length - 1) 0 = z := by
        obtain ⟨pre, hp⟩ := HS3.out
        rw [← hp]; simp
      rw [hz] at hx
      have hw : IntKind.i64.wrap ((b.length : Int) - 1) = ((b.length - 1 : Nat) : Int) := by have := HF.out.2; exact (IntWalk.i64_in _ (by omega)).trans (by omega)
      have hw' : wrap64 ((b.length : Int) - 1) = ((b.length - 1 : Nat) : Int) := by have := HF.out.2; unfold wrap64; omega
      have hwl : ((b.length - 1 : Nat) : Int) < (b.length : Int) := by omega
      have hwl2 : (b.length - 1 : Nat) < b.length := by omega
      clear hz
      by_cases k2 : z = 90
      · subst k2
        clear k1
        obtain ⟨kk, hkk⟩ := (may_ev v1 v2 v3).rounds
        have HKK := Aside0.mk hkk
        obtain ⟨A4', c4', e4, -, hC5⟩ := Kd.R_reads HR5.out
        cases e4
        have HC5 := Aside0.mk hC5
        clear hkk hC5
        by_cases k4 : mayB v1 v2 v3 = true
        · have hR0 : R = (v1, v2, v3, 0) := by rw [← HRe.out, if_pos ⟨rfl, rfl, k4⟩]
          subst hR0
          rw [k4] at HKK
          clear k4
          go_wp2_with (first | (go_at_call 27; rw [HW5.out]; refine (errQ u _ g [90] 0 HI5.out).mono ?_; rintro ev w6 ⟨rfl, h6⟩; cases h6) | (go_at_call 28; refine (leftQ u _ g [90] 0 HI5.out).mono ?_; rintro ev w6 ⟨rfl, h6⟩; cases h6) | (go_at_call 10; refine (sheet_May.calls kk v1 v2 A4 c4 v3 true _ HC5.out HZ4.out HKK.out).mono ?_; rintro ev w6 ⟨rfl, hb⟩; have HB6 := Aside0.mk hb; have HXs6 := Aside0.mk ((hb.block sb (blk_lt HXs5.out)).trans HXs5.out); have HXt6 := Aside0.mk ((hb.block tb (blk_lt HXt5.out)).trans HXt5.out); clear hb p0 p1 p2 p3 p4 p5 q0 q1 q2 q3 q4 q5; obtain ⟨p0, p1, p2, p3, p4, p5⟩ := three HXs6.out; obtain ⟨q0, q1, q2, q3, q4, q5⟩ := three HXt6.out))
          refine bodyPost_ret (results_ct rfl _ _ sb 24 #[.int .i64 v1, .int .i64 v2, .slice A4 v3.length c4] (0, 0) _ rfl (three_set HXs6.out _ _ _) Try.underlying24 rfl (by kernel_rfl)) rfl ?_
          have hlt : ∀ k, wt.heap.size ≤ k → k ≠ sb := fun k hk => by have := blk_lt HXs3.out; omega
          refine ⟨_, rfl, Kd.R_mono (Kd.R_lower (Kd.R_far (p := ⟨sb, 2, none⟩) (Kd.R_far (p := ⟨sb, 1, none⟩) (Kd.R_far (p := ⟨sb, 0, none⟩) (Kd.R_below HR5.out HB6.out) hlt _) hlt _) hlt _) (below_step HBs.out HU.out).size) (fun _ _ => trivial), (((below_step HWA.out HB6.out).setCell HSW.out _).setCell HSW.out _).setCell HSW.out _⟩
        · have hR0 : R = (0, 0, [], 5) := by rw [← HRe.out, if_neg]; rintro ⟨-, -, h⟩; exact k4 h
          subst hR0
          replace k4 := Bool.eq_false_iff.mpr k4
          rw [k4] at HKK
          clear k4
          go_wp2_with (first | (go_at_call 27; rw [HW5.out]; refine (errQ u _ g [90] 0 HI5.out).mono ?_; rintro ev w6 ⟨rfl, h6⟩; cases h6) | (go_at_call 28; refine (leftQ u _ g [90] 0 HI5.out).mono ?_; rintro ev w6 ⟨rfl, h6⟩; cases h6) | (go_at_call 10; refine (sheet_May.calls kk v1 v2 A4 c4 v3 false _ HC5.out HZ4.out HKK.out).mono ?_; rintro ev w6 ⟨rfl, hb⟩; have HB6 := Aside0.mk hb; have HXs6 := Aside0.mk ((hb.block sb (blk_lt HXs5.out)).trans HXs5.out); clear hb p0 p1 p2 p3 p4 p5 q0 q1 q2 q3 q4 q5; obtain ⟨p0, p1, p2, p3, p4, p5⟩ := three HXs6.out))
          refine bodyPost_ret (results_ct rfl _ _ sb 24 #[.int .i64 0, .int .i64 0, .slice none 0 0] (0, 0) _ rfl (three_set HXs6.out _ _ _) Try.underlying24 rfl (by kernel_rfl)) rfl ?_
          exact ⟨_, rfl, Kd.R_nil _ _ _ _ _, (((below_step HWA.out HB6.out).setCell HSW.out _).setCell HSW.out _).setCell HSW.out _⟩
      · have k3 : (z != 90) = true := by simpa using k2
        have hR0 : R = (0, 0, [], 5) := by rw [← HRe.out, if_neg]; rintro ⟨-, h, -⟩; exact k2 (List.singleton_inj.1 h)
        subst hR0
        clear k2 k1
        go_wp2_with (first | (go_at_call 27; rw [HW5.out]; refine (errQ u _ g [z] 0 HI5.out).mono ?_; rintro ev w6 ⟨rfl, h6⟩; cases h6) | (go_at_call 28; refine (leftQ u _ g [z] 0 HI5.out).mono ?_; rintro ev w6 ⟨rfl, h6⟩; cases h6))
        refine bodyPost_ret (results_ct rfl _ _ sb 24 #[.int .i64 0, .int .i64 0, .slice none 0 0] (0, 0) _ rfl (three_set HXs5.out _ _ _) Try.underlying24 rfl (by kernel_rfl)) rfl ?_
        exact ⟨_, rfl, Kd.R_nil _ _ _ _ _, ((HWA.out.setCell HSW.out _).setCell HSW.out _).setCell HSW.out _⟩
    · have k2 : ((l3.length : Int) != 1) = true := by simpa using (show ¬ (l3.length : Int) = 1 by omega)
      have hR0 : R = (0, 0, [], 5) := by rw [← HRe.out, if_neg]; rintro ⟨-, h, -⟩; rw [h] at k1; exact k1 rfl
      subst hR0
      clear k1
      go_wp2_with (first | (go_at_call 27; rw [HW5.out]; refine (errQ u _ g l3 0 HI5.out).mono ?_; rintro ev w6 ⟨rfl, h6⟩; cases h6) | (go_at_call 28; refine (leftQ u _ g l3 0 HI5.out).mono ?_; rintro ev w6 ⟨rfl, h6⟩; cases h6))
      refine bodyPost_ret (results_ct rfl _ _ sb 24 #[.int .i64 0, .int .i64 0, .slice none 0 0] (0, 0) _ rfl (three_set HXs5.out _ _ _) Try.underlying24 rfl (by kernel_rfl)) rfl ?_
      exact ⟨_, rfl, Kd.R_nil _ _ _ _ _, ((HWA.out.setCell HSW.out _).setCell HSW.out _).setCell HSW.out _⟩
  · have k1 : (e3 != 0) = true := by simpa using k0
    have hR0 : R = (0, 0, [], 5) := by rw [← HRe.out, if_neg]; rintro ⟨h, -⟩; exact k0 h
    subst hR0
    clear k0
    go_wp2_with (first | (go_at_call 27; rw [HW5.out]; refine (errQ u _ g l3 e3 HI5.out).mono ?_; rintro ev w6 ⟨rfl, h6⟩; cases h6))
    refine bodyPost_ret (results_ct rfl _ _ sb 24 #[.int .i64 0, .int .i64 0, .slice none 0 0] (0, 0) _ rfl (three_set HXs5.out _ _ _) Try.underlying24 rfl (by kernel_rfl)) rfl ?_
    exact ⟨_, rfl, Kd.R_nil _ _ _ _ _, ((HWA.out.setCell HSW.out _).setCell HSW.out _).setCell HSW.out _⟩
end Go.Proofs.Ytmoefknefopdlaa.Parse
namespace Go.Proofs.Ytmoefknefopdlaa.PAll
open Go.RowKit Go.Proofs.YtmoefknefopdlaaW.PrintWords Go.Proofs.YtmoefknefopdlaaW.PrintLast Go.Proofs.YtmoefknefopdlaaW.PrintMore
def sheet_Parse.f (l0 : List Int) : Option (Int × Int × List Int × Int) := if (∀ x ∈ l0, 0 ≤ x ∧ x < 256) ∧ l0.length ≤ 1000000 then some (Sp.parseL l0) else none
theorem sheet_Parse.calls (A0 : Option Addr) (c0 : Nat) (l0 : List Int) (r1 : Int) (r2 : Int) (r3 : List Int) (r4 : Int) (w : World) (hr0 : Kd.C (Kd.int .u8) w A0 l0.length l0) (hc0 : l0.length ≤ c0) (h : sheet_Parse.f l0 = some (r1, r2, r3, r4)) :
    Calls Try.prog 14 #[.slice A0 l0.length c0] w fun e w' => ∃ v2_ : Value, e = .returned (.tuple #[.agg #[.int .i64 r1, .int .i64 r2, v2_], .int .i64 r4]) ∧ Kd.R (Kd.int .u8) 5 w' w.heap.size (fun _ => True) v2_ r3 ∧ Below w.heap.size w w' := by
  unfold sheet_Parse.f at h
  by_cases hf : (∀ x ∈ l0, 0 ≤ x ∧ x < 256) ∧ l0.length ≤ 1000000
  · rw [if_pos hf] at h
    have := Parse.parse_walk A0 c0 l0 w hr0 hc0 hf
    rw [Option.some.inj h] at this
    exact this
  · rw [if_neg hf] at h
    cases h
end Go.Proofs.Ytmoefknefopdlaa.PAll
