import Derived.Test.YtdjcmefnnhfhpaaG2a
import Derived.Lib.Hide
namespace Go.Proofs.Ytdjcmefnnhfhpaa.PAll
open Go.RowKit Go.Proofs.YtdjcmefnnhfhpaaW.PrintWords Go.Proofs.YtdjcmefnnhfhpaaW.PrintLast Go.Proofs.YtdjcmefnnhfhpaaW.PrintMore
set_option linter.unusedVariables false
set_option linter.unusedSimpArgs false
def potsherdlaw7_awake.f (k : Nat)  : Option (Bool) := (some (([5, 2, 2] : List Int) : List Int)).bind fun y162 => ((potsherdlaw7_all.f k 3).bind fun t165 => ((wear_Ends.f k y162 t165).bind fun bt168 => (if bt168.1 = 2 then (if bt168.2 = 5 then ((potsherdlaw7_all.f k 3).bind fun t170 => ((wear_Due.f k y162 t170 2).bind fun t173 => (if t173 = 1 then ((potsherdlaw7_all.f k 3).bind fun t174 => ((wear_Due.f k y162 t174 3).bind fun t177 => (if t177 = (-1) then ((potsherdlaw7_all.f k 3).bind fun t178 => ((wear_Hottest.f k y162 t178).bind fun t181 => (if t181 = 0 then ((potsherdlaw7_all.f k 3).bind fun t182 => ((wear_Buckets.f k y162 t182).bind fun t185 => (some ((t185.length : Int) == 4)))) else (some false)))) else (some false)))) else (some false)))) else (some false)) else (some false))))
theorem all3 : potsherdlaw7_all.f 30 3 = some [true, true, true] := by decide +kernel
theorem ends3 : wear_Ends.f 30 [5, 2, 2] [true, true, true] = some (2, 5) := by decide +kernel
theorem due3 : wear_Due.f 30 [5, 2, 2] [true, true, true] 2 = some 1 := by decide +kernel
theorem due4 : wear_Due.f 30 [5, 2, 2] [true, true, true] 3 = some (-1) := by decide +kernel
theorem hot3 : wear_Hottest.f 30 [5, 2, 2] [true, true, true] = some 0 := by decide +kernel
theorem buck3 : wear_Buckets.f 30 [5, 2, 2] [true, true, true] = some [2, 0, 0, 1] := by decide +kernel
theorem awake_now : potsherdlaw7_awake.f 30 = some true := by decide +kernel
theorem potsherdlaw7_awake.mono : ∀ k, LeO (potsherdlaw7_awake.f k ) (potsherdlaw7_awake.f (k + 1) ) := by
  intro  k
  unfold potsherdlaw7_awake.f
  repeat' first
      | (with_reducible exact potsherdlaw7_all.mono _ _)
      | (with_reducible exact wear_Buckets.mono _ _ _)
      | (with_reducible exact wear_Due.mono _ _ _ _)
      | (with_reducible exact wear_Ends.mono _ _ _)
      | (with_reducible exact wear_Hottest.mono _ _ _)
      | (with_reducible exact LeO.refl _)
      | (with_reducible exact LeO.none _)
      | (with_reducible refine LeO.ite ?_ ?_)
      | (with_reducible refine LeO.bind ?_ (fun _ => ?_))
theorem awake_ev : Ev (fun k => potsherdlaw7_awake.f k) true := Ev.of potsherdlaw7_awake.mono awake_now
/-- [5, 2, 2] where the call lays it. -/
theorem lit_ints (W : World) (xs : List Int) (h : xs.length * 8 ≤ 140737488355328) : (Kd.int .i64).C (W.alloc (.cells (xs.map (Value.int .i64)).toArray 3)) (some ⟨W.heap.size, 0, none⟩) xs.length xs := by
  have ho : (W.alloc (.cells (xs.map (Value.int .i64)).toArray 3)).ownsRow W.heap.size 3 1 (.slice (some ⟨W.heap.size, 0, none⟩) xs.length xs.length) xs.length (xs.map (Value.int .i64)) :=
    ⟨by simp, .inr ⟨_, _, _, rfl, Nat.le_refl _, heap_alloc_new W _, Nat.le_refl _, by unfold maxLen; omega, by simp, by simp; exact List.take_of_length_le (by simp)⟩⟩
  have hR : (Kd.int .i64).R 3 (W.alloc (.cells (xs.map (Value.int .i64)).toArray 3)) W.heap.size (fun _ => True) (.slice (some ⟨W.heap.size, 0, none⟩) xs.length xs.length) xs := Kd.R_of_own ho (fun _ _ => trivial)
  obtain ⟨A, c, e, _, hC⟩ := Kd.R_reads hR
  injection e with e1 e2 e3
  rw [e1]
  exact hC
theorem all_true (w : World) : Calls Try.prog 22 #[.int .i64 3] w fun e w' => ∃ A c, e = .returned (.slice A 3 c) ∧ 3 ≤ c ∧ Kd.bool.C w' A 3 [true, true, true] ∧ Below w.heap.size w w' := by
  refine (potsherdlaw7_all.calls 30 3 _ w all3).mono ?_
  rintro e w' ⟨v, rfl, hR, hb⟩
  obtain ⟨A, c, rfl, hl, hC⟩ := Kd.R_reads hR
  exact ⟨A, c, rfl, hl, hC, hb⟩
set_option maxHeartbeats 4000000 in
set_option maxRecDepth 100000 in
theorem potsherdlaw7_awake.calls (k : Nat)  (r : Bool) (w : World) (h : potsherdlaw7_awake.f k  = some r) :
    Calls Try.prog 8 #[] w fun e w' => e = .returned (.bool r) ∧ Below w.heap.size w w' := by
  obtain rfl : r = true := by
    obtain ⟨K, hK⟩ := awake_ev
    have h1 := at_rounds potsherdlaw7_awake.mono (Nat.le_max_left k K) h
    have h2 := hK (max k K) (Nat.le_max_right k K)
    have h3 : (some r : Option Bool) = some true := h1.symm.trans h2
    injection h3
  clear h
  go_enter Try.func8, Try.ntmps8
  go_wp2_with fail
  have hI0 : (Kd.int .i64).C (w.alloc (.cells #[.int .i64 5, .int .i64 2, .int .i64 2] 3)) (some ⟨w.heap.size, 0, none⟩) 3 [5, 2, 2] := lit_ints w [5, 2, 2] (by decide)
  have HI0 := Lib.hid hI0
  have HB0 := Lib.hid (show Below w.heap.size w (w.alloc (.cells #[.int .i64 5, .int .i64 2, .int .i64 2] 3)) from below_alloc (Below.refl _ _) _)
  clear hI0
  refine (all_true _).mono ?_
  rintro e w1 ⟨A1, c1, rfl, hl1, hC1, hb⟩
  have HI1 := Lib.hid (Kd.C_below HI0.out hb)
  have HB1 := Lib.hid (below_step HB0.out hb)
  have HC1 := Lib.hid hC1
  clear hb hC1 HI0 HB0
  go_wp2_with fail
  refine (wear_Ends.calls 30 _ 3 [5, 2, 2] _ c1 [true, true, true] 2 5 _ HI1.out (by decide) HC1.out hl1 ends3).mono ?_
  rintro e v1 ⟨rfl, hb⟩
  have HI2 := Lib.hid (Kd.C_below HI1.out hb)
  have HB2 := Lib.hid (below_step HB1.out hb)
  clear hb HI1 HB1 HC1
  go_wp2_with fail
  refine (all_true _).mono ?_
  rintro e w3 ⟨A3, c3, rfl, hl3, hC3, hb⟩
  have HI3 := Lib.hid (Kd.C_below HI2.out hb)
  have HB3 := Lib.hid (below_step HB2.out hb)
  have HC3 := Lib.hid hC3
  clear hb hC3 HI2 HB2
  go_wp2_with fail
  refine (wear_Due.calls 30 _ 3 [5, 2, 2] _ c3 [true, true, true] 2 1 _ HI3.out (by decide) HC3.out hl3 due3).mono ?_
  rintro e v3 ⟨rfl, hb⟩
  have HI4 := Lib.hid (Kd.C_below HI3.out hb)
  have HB4 := Lib.hid (below_step HB3.out hb)
  clear hb HI3 HB3 HC3
  go_wp2_with fail
  refine (all_true _).mono ?_
  rintro e w5 ⟨A5, c5, rfl, hl5, hC5, hb⟩
  have HI5 := Lib.hid (Kd.C_below HI4.out hb)
  have HB5 := Lib.hid (below_step HB4.out hb)
  have HC5 := Lib.hid hC5
  clear hb hC5 HI4 HB4
  go_wp2_with fail
  refine (wear_Due.calls 30 _ 3 [5, 2, 2] _ c5 [true, true, true] 3 (-1) _ HI5.out (by decide) HC5.out hl5 due4).mono ?_
  rintro e v5 ⟨rfl, hb⟩
  have HI6 := Lib.hid (Kd.C_below HI5.out hb)
  have HB6 := Lib.hid (below_step HB5.out hb)
  clear hb HI5 HB5 HC5
  go_wp2_with fail
  refine (all_true _).mono ?_
  rintro e w7 ⟨A7, c7, rfl, hl7, hC7, hb⟩
  have HI7 := Lib.hid (Kd.C_below HI6.out hb)
  have HB7 := Lib.hid (below_step HB6.out hb)
  have HC7 := Lib.hid hC7
  clear hb hC7 HI6 HB6
  go_wp2_with fail
  refine (wear_Hottest.calls 30 _ 3 [5, 2, 2] _ c7 [true, true, true] 0 _ HI7.out (by decide) HC7.out hl7 hot3).mono ?_
  rintro e v7 ⟨rfl, hb⟩
  have HI8 := Lib.hid (Kd.C_below HI7.out hb)
  have HB8 := Lib.hid (below_step HB7.out hb)
  clear hb HI7 HB7 HC7
  go_wp2_with fail
  refine (all_true _).mono ?_
  rintro e w9 ⟨A9, c9, rfl, hl9, hC9, hb⟩
  have HI9 := Lib.hid (Kd.C_below HI8.out hb)
  have HB9 := Lib.hid (below_step HB8.out hb)
  have HC9 := Lib.hid hC9
  clear hb hC9 HI8 HB8
  go_wp2_with fail
  refine (wear_Buckets.calls 30 _ 3 [5, 2, 2] _ c9 [true, true, true] _ _ HI9.out (by decide) HC9.out hl9 buck3).mono ?_
  rintro e v9 ⟨v, rfl, hR, hb⟩
  obtain ⟨Az, cz, rfl, hlz, hCz⟩ := Kd.R_reads hR
  have HBz := Lib.hid (below_step HB9.out hb)
  clear hb hR HI9 HB9 HC9
  go_wp2_with fail
  go_ret
  exact ⟨rfl, HBz.out⟩
end Go.Proofs.Ytdjcmefnnhfhpaa.PAll
