import Derived.Test.YtkncmbbkehnagaaZb10
set_option linter.unusedVariables false
set_option linter.unusedSimpArgs false
/-! MountNil. -/
namespace Go.Proofs.Ytkncmbbkehnagaa.Cm
open Go.RowKit Go.Proofs.YtkncmbbkehnagaaW.PrintWords Go.Proofs.YtkncmbbkehnagaaW.PrintLast Go.Proofs.YtkncmbbkehnagaaW.PrintMore Go.Proofs.Ytkncmbbkehnagaa.Kp Go.Proofs.Ytkncmbbkehnagaa.Cp Go.Proofs.Ytkncmbbkehnagaa.PAll Go.Proofs.Ytkncmbbkehnagaa.Iter Go.Proofs.Ytkncmbbkehnagaa.St Go.Proofs.Ytkncmbbkehnagaa.Sp
attribute [local go_sem] max2_int min2_int max_two min_two max_three min_three max_four min_four

structure S31 where
  f0 : Int
  f1 : Int
def k31 : Kd S31 := Kd.iso (Kd.pair (Kd.int .i64) (Kd.int .i64)) (fun x : S31 => (x.f0, x.f1))
theorem Sg.next {w0 W : World} {b0 : Nat} {S : Nat → Prop} {g q k : Nat} {s : Chp} {all : List Sp2} (h : Sg w0 W b0 S g q s all k) : Sc w0 W b0 S g q (scanS s (all.take k)) (all.drop k) (scanF s (all.take k)) (scanN s (all.take k)) := h
theorem Sc.box {w0 W : World} {b0 : Nat} {S : Nat → Prop} {g q : Nat} {s : Chp} {sp : List Sp2} {fs : List FD} {shs : List S28} (h : Sc w0 W b0 S g q s sp fs shs) : ¬ S q ∧ ∃ vs vf vh, W.heap[q]? = some (.cells (scCells g vs vf vh) 87 (0, 0)) := by
  obtain ⟨b1, A, c, vf, vh, h⟩ := h
  refine ⟨fun hs => ?_, _, _, _, h.box⟩
  have := h.lt1 q hs
  have := h.q1
  omega
theorem nil_ok : OkL 2 (List.replicate 2 []) := fun B hB => by
  rw [List.eq_of_mem_replicate hB]
  exact ⟨by decide, fun x hx => by cases hx⟩
def nlC : Chp := cutS (mkC 2 (List.replicate 2 []) 0 0 0) 0 0
theorem nlC_down : (progS nlC 0 0 [1]).1.down = true := (torn_mk (p := 2) (L := List.replicate 2 []) 0 0 0 0 (i := 0) (B := []) [1] (by decide) rfl (by decide) (by decide) (by decide) (by decide)).2.1
set_option maxHeartbeats 2000000 in
set_option maxRecDepth 100000 in
theorem mrootNil2 (W : World) : Calls Try.prog 17 #[.pointer none] W fun e w' => e = .returned (.tuple #[.agg #[.int .i64 0, .int .i64 0, .slice none 0 0], .bool false]) ∧ Below W.heap.size W w' := by
  go_enter Try.func17, Try.ntmps17
  go_wp2_with fail
  refine (overNil _).mono ?_
  rintro ev w1 ⟨rfl, hw⟩
  rw [hw]
  clear hw
  go_wp2_with fail
  have hbk : ((W.alloc (.cells #[.int .i64 0, .int .i64 0, .slice none 0 0] 28)).alloc (.cells #[.int .i64 0, .int .i64 0, .slice none 0 0] 28)).heap[W.heap.size]? = some (.cells #[.int .i64 0, .int .i64 0, .slice none 0 0] 28 (0, 0)) := blk_alloc (blk_new W _) _
  exact bodyPost_ret (results_ct rfl _ _ W.heap.size 28 #[.int .i64 0, .int .i64 0, .slice none 0 0] (0, 0) _ rfl hbk Try.underlying28 rfl (by kernel_rfl)) rfl ⟨rfl, below_alloc (below_alloc (Below.refl _ _) _) _⟩
set_option maxHeartbeats 4000000 in
set_option maxRecDepth 100000 in
theorem nilMany {W : World} (a0 : Int) (A1 : Option Addr) (n c1 : Nat) (hn : 60 < n) : Calls Try.prog 5 #[.int .i64 a0, .slice A1 n c1] W fun e w' => e = .returned (.bool true) ∧ Below W.heap.size W w' := by
  have d1 : decide ((60 : Int) < n) = true := decide_eq_true (by omega)
  go_enter Try.func5, Try.ntmps5
  go_wp2_with fail
  refine (awake11 W).mono ?_
  rintro ev w1 ⟨rfl, hb⟩
  go_wp2_with fail
  go_ret
  exact ⟨rfl, hb⟩
set_option maxHeartbeats 4000000 in
set_option maxRecDepth 100000 in
theorem nilFew {W : World} (a0 : Int) (A1 : Option Addr) (n c1 : Nat) (hn : ¬ 60 < n) : Calls Try.prog 5 #[.int .i64 a0, .slice A1 n c1] W fun e w' => e = .returned (.bool true) ∧ Below W.heap.size W w' := by
  have d1 : decide ((60 : Int) < n) = false := decide_eq_false (by omega)
  go_enter Try.func5, Try.ntmps5
  go_wp2_with fail
  refine (mstepNil W a0).mono ?_
  rintro ev w1 ⟨rfl, hw1⟩
  rw [hw1]
  clear hw1 w1
  go_wp2_with fail
  refine (mrootNil2 W).mono ?_
  rintro ev w2 ⟨rfl, hb2⟩
  have HB2 := Aside0.mk hb2
  clear hb2
  go_upto_region 6 with fail
  obtain ⟨w3, hw3⟩ : ∃ w3, w2.alloc (.cells #[.int .i64 0, .int .i64 0, .slice none 0 0] 28) = w3 := ⟨_, rfl⟩
  have HB3 : Aside0 (Below W.heap.size W w3) := ⟨by rw [← hw3]; exact below_alloc HB2.out _⟩
  rw [hw3]
  clear hw3 HB2
  go_wp2_with fail
  refine (mpickNil w3 A1 n c1).mono ?_
  rintro ev w4 ⟨rfl, hb4⟩
  have HB4 := Aside0.mk (below_step HB3.out hb4)
  clear hb4 HB3
  go_wp2_with fail
  refine (mnewNil w4).mono ?_
  rintro ev w5 ⟨rfl, hw⟩
  rw [hw]
  clear hw w5
  go_wp2_with fail
  refine (mseqNil w4).mono ?_
  rintro ev w5 ⟨rfl, hw⟩
  rw [hw]
  clear hw w5
  go_wp2_with fail
  refine (mfoundNil w4).mono ?_
  rintro ev w5 ⟨rfl, hw⟩
  rw [hw]
  clear hw w5
  go_wp2_with fail
  refine (newH w4 2 2 none 0 [] (C_none8 w4) (by decide) (by decide) (by decide) (by decide) (by decide) (by decide)).mono ?_
  rintro ev w5 ⟨g, rfl, hh, hbn⟩
  obtain ⟨S, hS⟩ : ∃ S : Nat → Prop, (fun k => w4.heap.size ≤ k ∧ k < w5.heap.size) = S := ⟨_, rfl⟩
  rw [hS, new_mkC] at hh
  have HB5 := Aside0.mk (below_step HB4.out hbn)
  have HB4s := Aside0.mk HB4.out.size
  have HBN := Aside0.mk hbn
  have HH5 := Aside0.mk hh
  clear hh hbn hS HB4
  go_wp2_with fail
  refine (sd_new HBN.out HH5.out nil_ok (by decide)).mono ?_
  rintro ev w6 ⟨q, rfl, hq, hb6, hs6⟩
  have HB6 := Aside0.mk (below_step HB5.out hb6)
  have HBN6 := Aside0.mk (below_step HBN.out hb6)
  have HH6 := Aside0.mk (HH5.out.below hb6)
  have HS6 := Aside0.mk hs6.next.box
  clear hs6 HBN HH5 HB5 hb6
  go_wp2_with fail
  refine (mstepArg 0 (by decide)).mono ?_
  rintro ev w7 ⟨rfl, hw⟩
  rw [hw]
  clear hw w7
  go_wp2_with fail
  refine (cutH HH6.out 0 0 (by decide) (by decide)).mono ?_
  rintro ev w7 ⟨⟨v, rfl⟩, hh7, hn7⟩
  obtain ⟨hns, vs, vf, vh, hbx⟩ := HS6.out
  have HB7 := Aside0.mk (HB6.out.trans (hn7.bel.mono HB4s.out))
  have HX7 := Aside0.mk (hn7.both hbx hns)
  have HH7 : Aside0 (Hd w7 w4.heap.size S g nlC) := ⟨hh7⟩
  clear hh7 hn7 hns hbx HH6 HS6 HB6 HBN6
  go_upto_region 13 with fail
  go_wp2_with fail
  have hbl8 := below_alloc (Below.refl w7.heap.size w7) (.cells #[.int .u8 1] 5)
  have hh8 := HH7.out.below hbl8
  refine (programH hh8 0 0 (some ⟨w7.heap.size, 0, none⟩) 1 [1] (lits_C w7 [1] (by decide) (0, 0)) (by decide) (fun ad hA => by
    injection hA with hA
    subst hA
    exact ⟨by simp, fun hs => by have h_ : w7.heap.size < w7.heap.size := HH7.out.lt _ hs; omega⟩)).mono ?_
  rintro ev w8 ⟨rfl, S8, hh9, hn9⟩
  have hx9 := (hn9.both (blk_below HX7.out.1 hbl8) HX7.out.2).1
  have HB8 := Aside0.mk ((below_step HB7.out hbl8).trans (hn9.bel.mono HB4s.out))
  have HX8 := Aside0.mk hx9
  have HH8 := Aside0.mk hh9
  clear hx9 hn9 hh9 hh8 hbl8 HX7 HB7 HH7
  go_wp2_with fail
  refine (mstepDown HX8.out HH8.out.chip nlC_down 1 (by decide)).mono ?_
  rintro ev w9 ⟨rfl, hw⟩
  rw [hw]
  clear hw w9 HX8 HH8
  go_wp2_with fail
  refine (awake11 w8).mono ?_
  rintro ev w9 ⟨rfl, hb9⟩
  have HB9 := Aside0.mk (below_step HB8.out hb9)
  clear hb9 HB8
  go_wp2_with fail
  go_ret
  exact ⟨rfl, HB9.out⟩
theorem nilFinal (W : World) (a0 : Int) (w0 : (Lit.int .i64 a0).wf = true) (A1 : Option Addr) (c1 : Nat) (l1 : List S31) (hc1 : l1.length ≤ c1) (hr1 : k31.C W A1 l1.length l1) (hm1 : l1.length ≤ maxLen) (hok1 : ∀ x ∈ l1, (Lit.int .i64 x.f0).wf = true ∧ (Lit.int .i64 x.f1).wf = true) :
    Calls Try.prog 5 #[.int .i64 a0, .slice A1 l1.length c1] W fun e w' => e = .returned (.bool true) ∧ Below W.heap.size W w' := by
  by_cases h : 60 < l1.length
  · exact nilMany a0 A1 l1.length c1 h
  · exact nilFew a0 A1 l1.length c1 h
end Go.Proofs.Ytkncmbbkehnagaa.Cm

