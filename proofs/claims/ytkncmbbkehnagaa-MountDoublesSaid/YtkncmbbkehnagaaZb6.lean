import Derived.Test.YtkncmbbkehnagaaZb3
import Derived.Test.YtkncmbbkehnagaaZb0
import Derived.WalkSpells
import Derived.Test.YtkncmbbkehnagaaZb4
import Derived.Test.YtkncmbbkehnagaaZb5
import Derived.Deep.RegionWith
import Derived.Deep.QuietTactic
import Derived.BigQuiet
import Derived.Deep.DeepCutAuto
/-  Began as a tool's text over an altered copy of the translation (NOTES.md). -/
namespace Go.Proofs.Ytkncmbbkehnagaa.PAll
open Go.RowKit Go.Proofs.YtkncmbbkehnagaaW.PrintWords Go.Proofs.YtkncmbbkehnagaaW.PrintLast Go.Proofs.YtkncmbbkehnagaaW.PrintMore
attribute [local go_sem] max2_int min2_int max_two min_two max_three min_three max_four min_four   -- for this text's walks alone
set_option linter.unusedVariables false
set_option linter.unusedSimpArgs false

/-! ### bytes_number: function 37 -/
mutual
def bytes_number.l0 : Nat → Int → Int → List Int → Int → Int → Option (Int × Int)
  | 0, _, _, _, _, _ => none
  | k + 1, x1, x6, x13, x14, x15 => if x15 < x14 then (if 0 ≤ x15 then (if x15 < (x13.length : Int) then (if x15 = 0 then (bytes_number.j1 k x1 x6 x15 (rd x13 x15) x13 x14 x15 ((rd x13 x15) == 128)) else (bytes_number.j1 k x1 x6 x15 (rd x13 x15) x13 x14 x15 false)) else (none)) else (none)) else (some (0, 0))
def bytes_number.j1 : Nat → Int → Int → Int → Int → List Int → Int → Int → Bool → Option (Int × Int)
  | 0, _, _, _, _, _, _, _, _ => none
  | k + 1, x1, x6, x7, x8, x13, x14, x15, x25 => if x25 = true then (some (0, 0)) else (if x8 ≥ 128 then (bytes_number.l0 k x1 (wrap64 ((wrap64 (x6 * 128)) + (Int.tmod (wrap64 (x8)) 128))) x13 x14 (wrap64 (x15 + 1))) else (if (wrap64 ((wrap64 (x6 * 128)) + (Int.tmod (wrap64 (x8)) 128))) > x1 then (some (0, 0)) else (some (wrap64 ((wrap64 (x6 * 128)) + (Int.tmod (wrap64 (x8)) 128)), wrap64 (x7 + 1)))))
end
def bytes_number.f (k : Nat) (l0 : List Int) (a1 : Int) : Option (Int × Int) := if 0 ≤ (mn (l0.length : Int) 6) then (if (mn (l0.length : Int) 6) ≤ (l0.length : Int) then (bytes_number.l0 k a1 0 (l0.take ((mn (l0.length : Int) 6) : Int).toNat) ((l0.take ((mn (l0.length : Int) 6) : Int).toNat).length : Int) 0) else (none)) else (none)
theorem bytes_number.mono_l : ∀ k, (∀ y0 y1 y2 y3 y4, LeO (bytes_number.l0 k y0 y1 y2 y3 y4) (bytes_number.l0 (k + 1) y0 y1 y2 y3 y4)) ∧ (∀ y0 y1 y2 y3 y4 y5 y6 y7, LeO (bytes_number.j1 k y0 y1 y2 y3 y4 y5 y6 y7) (bytes_number.j1 (k + 1) y0 y1 y2 y3 y4 y5 y6 y7))
  | 0 => ⟨fun _ _ _ _ _ r h => by simp [bytes_number.l0] at h, fun _ _ _ _ _ _ _ _ r h => by simp [bytes_number.j1] at h⟩
  | k + 1 => by
    obtain ⟨ih0, ih1⟩ := bytes_number.mono_l k
    refine ⟨?_, ?_⟩
    · intro y0 y1 y2 y3 y4
      unfold bytes_number.l0
      repeat' first
      | (with_reducible exact ih0 _ _ _ _ _)
      | (with_reducible exact ih1 _ _ _ _ _ _ _ _)
      | (with_reducible exact LeO.refl _)
      | (with_reducible exact LeO.none _)
      | (with_reducible refine LeO.ite ?_ ?_)
      | (with_reducible refine LeO.bind ?_ (fun _ => ?_))
      | exact ih0 _ _ _ _ _
      | exact ih1 _ _ _ _ _ _ _ _
      | exact LeO.none _
      | refine LeO.ite ?_ ?_
      | refine LeO.bind ?_ (fun _ => ?_)
    · intro y0 y1 y2 y3 y4 y5 y6 y7
      unfold bytes_number.j1
      repeat' first
      | (with_reducible exact ih0 _ _ _ _ _)
      | (with_reducible exact ih1 _ _ _ _ _ _ _ _)
      | (with_reducible exact LeO.refl _)
      | (with_reducible exact LeO.none _)
      | (with_reducible refine LeO.ite ?_ ?_)
      | (with_reducible refine LeO.bind ?_ (fun _ => ?_))
      | exact ih0 _ _ _ _ _
      | exact ih1 _ _ _ _ _ _ _ _
      | exact LeO.none _
      | refine LeO.ite ?_ ?_
      | refine LeO.bind ?_ (fun _ => ?_)
theorem bytes_number.mono : ∀ a0 a1 k, LeO (bytes_number.f k a0 a1) (bytes_number.f (k + 1) a0 a1) := by
  intro a0 a1 k
  obtain ⟨ih0, ih1⟩ := bytes_number.mono_l k
  unfold bytes_number.f
  repeat' first
      | (with_reducible exact ih0 _ _ _ _ _)
      | (with_reducible exact ih1 _ _ _ _ _ _ _ _)
      | (with_reducible exact LeO.refl _)
      | (with_reducible exact LeO.none _)
      | (with_reducible refine LeO.ite ?_ ?_)
      | (with_reducible refine LeO.bind ?_ (fun _ => ?_))
      | exact ih0 _ _ _ _ _
      | exact ih1 _ _ _ _ _ _ _ _
      | exact LeO.none _
      | refine LeO.ite ?_ ?_
      | refine LeO.bind ?_ (fun _ => ?_)
set_option maxHeartbeats 8000000 in
set_option maxRecDepth 100000 in
theorem bytes_number.calls (k : Nat) (A0 : Option Addr) (c0 : Nat) (l0 : List Int) (a1 : Int) (r1 : Int) (r2 : Int) (w : World) (hr0 : Kd.C (Kd.int .u8) w A0 l0.length l0) (hc0 : l0.length ≤ c0) (h : bytes_number.f k l0 a1 = some (r1, r2)) :
    Calls Try.prog 74 #[.slice A0 l0.length c0, .int .i64 a1] w fun e w' => e = .returned (.tuple #[.int .i64 r1, .int .i64 r2]) ∧ Below w.heap.size w w' := by
  have HR0 := Aside0.mk hr0
  have HC0 := Aside0.mk hc0
  clear hr0 hc0
  have HB := Aside0.mk (Below.refl w.heap.size w)
  have H : (if 0 ≤ (mn (l0.length : Int) 6) then (if (mn (l0.length : Int) 6) ≤ (l0.length : Int) then (bytes_number.l0 k a1 0 (l0.take ((mn (l0.length : Int) 6) : Int).toNat) ((l0.take ((mn (l0.length : Int) 6) : Int).toNat).length : Int) 0) else (none)) else (none)) = some (r1, r2) := h
  clear h
  obtain ⟨ji3, hji3⟩ : ∃ j_ : Int, (mn (l0.length : Int) 6) = j_ := ⟨_, rfl⟩
  replace H : (if 0 ≤ (ji3) then (if (ji3) ≤ (l0.length : Int) then (bytes_number.l0 k a1 0 (l0.take ((ji3) : Int).toNat) ((l0.take ((ji3) : Int).toNat).length : Int) 0) else (none)) else (none)) = some (r1, r2) := by first | (rw [hji3] at H; exact H) | (simp only [hji3] at H ⊢; exact H)
  (try (have hji3h : ji3 ≤ 6 := by (rw [← hji3]; unfold mn; (repeat' split) <;> omega)))
  (try (have hji3g : ji3 ≤ 64 := by omega))
  (try (have hji3l : 0 ≤ ji3 := by (rw [← hji3]; unfold mn; (repeat' split) <;> omega)))
  (try (have hji3m : 0 ≤ ji3 := by omega))
  have hji3_ : (if 6 < (l0.length : Int) then 6 else (l0.length : Int)) = ji3 := hji3
  by_cases c4 : 0 ≤ (ji3)
  · rw [if_pos c4] at H
    have c4b0 := eq_true c4
    have c4b1 : decide (0 ≤ (ji3)) = true := decide_eq_true c4
    clear c4
    by_cases c5 : (ji3) ≤ (l0.length : Int)
    · rw [if_pos c5] at H
      have c5b0 := eq_true c5
      have c5b1 : decide ((ji3) ≤ (l0.length : Int)) = true := decide_eq_true c5
      have hlen3 : ((l0.take ((ji3) : Int).toNat).length : Int) = ji3 := by rw [List.length_take]; omega
      have hmx3 : max ji3 0 = ji3 := by omega
      clear c5
      have H' := Aside0.mk H
      clear H
      obtain ⟨i06, hi06, _, hsz6, _⟩ := info_parts info5
      obtain ⟨hcut6, hA6, hC6⟩ := print_take_of (P := Try.prog) (Value.int .u8) 0 26 5 .i64 Try.underlying26 hi06 hsz6 A0 c0 l0 (ji3) (of_decide_eq_true (by first | (with_reducible assumption) | assumption)) (of_decide_eq_true (by first | (with_reducible assumption) | assumption)) HC0.out
      have HR101 := Aside0.mk (Kd.C_of_reads (h1 := fun _ => rfl) (hA6 _ (Kd.reads_of_C HR0.out)))
      have HC101 := Aside0.mk hC6
      clear hA6 hC6 hi06 hsz6
      go_enter Try.func74, Try.ntmps74
      go_wp2
      go_loopg [6, 15] k (fun kq v6 v15 w' => ∃ (x6_1 : Int) (x15_1 : Int), v6 = .int .i64 x6_1 ∧ v15 = .int .i64 x15_1 ∧ Aside0 (bytes_number.l0 kq a1 x6_1 (l0.take ((ji3) : Int).toNat) ((l0.take ((ji3) : Int).toNat).length : Int) x15_1 = some (r1, r2)) ∧ Aside0 (kq ≤ k) ∧ Aside0 (Below w.heap.size w w'))
      case atStart => exact ⟨(0), (0), (by first | rfl | (simp; done) | (simp [*]; done)), (by first | rfl | (simp; done) | (simp [*]; done)), H', ⟨Nat.le_refl _⟩, ⟨by repeat (first | (with_reducible first | exact HB.out | apply below_alloc | apply pw_below_drewN | apply below_drew1) | exact HB.out)⟩⟩
      case round =>
        clear H'
        try clear p2
        try clear c3
        try clear c4
        try clear c4b0
        try clear c4b1
        try clear c5
        try clear c5b0
        try clear c5b1
        obtain ⟨x6_1, x15_1, rfl, rfl, HA, HK1, HB⟩ := hrel
        cases gk with
        | zero => exact absurd HA.out (by simp [bytes_number.l0])
        | succ k1 =>
          have H := HA.out
          clear HA
          simp only [bytes_number.l0] at H
          by_cases c7 : x15_1 < ((l0.take ((ji3) : Int).toNat).length : Int)
          · rw [if_pos c7] at H
            have c7b0 : decide (x15_1 < ((l0.take ((ji3) : Int).toNat).length : Int)) = true := decide_eq_true c7
            have c7b0x := c7b0
            (try rw [hlen3] at c7b0x)
            clear c7
            by_cases c8 : 0 ≤ x15_1
            · rw [if_pos c8] at H
              have c8b0 : decide (0 ≤ x15_1) = true := decide_eq_true c8
              clear c8
              by_cases c9 : x15_1 < ((l0.take ((ji3) : Int).toNat).length : Int)
              · rw [if_pos c9] at H
                have c9b0 : decide (x15_1 < ((l0.take ((ji3) : Int).toNat).length : Int)) = true := decide_eq_true c9
                have c9b0x := c9b0
                (try rw [hlen3] at c9b0x)
                clear c9
                have HC10 := Aside0.mk H
                clear H
                have p102 : 0 ≤ (x15_1 : Int) := of_decide_eq_true (by first | (with_reducible assumption) | assumption)
                have q102 : x15_1 < ((l0.take ((ji3) : Int).toNat).length : Int) := of_decide_eq_true (by first | (with_reducible assumption) | assumption)
                have q102x : x15_1 < ji3 := by have := q102; omega
                have q102y : ¬ ji3 ≤ x15_1 := by omega
                obtain ⟨ad102, e102, hx102_0⟩ := Kd.at_int HR101.out x15_1 p102 q102
                cases e102
                replace hx102_0 := (HB.out.cell (World.block_lt_of_cell? w _ hx102_0)).trans hx102_0
                replace p102 := eq_true p102
                replace q102 := eq_true q102
                go_upto_region 5 with (fail)
                go_cut [25] (fun v25 wc => ∃ (kq : Nat) (x25_9 : Bool), v25 = .bool x25_9 ∧ Aside0 (bytes_number.j1 kq a1 x6_1 x15_1 (rd (l0.take ((ji3) : Int).toNat) x15_1) (l0.take ((ji3) : Int).toNat) ((l0.take ((ji3) : Int).toNat).length : Int) x15_1 x25_9 = some (r1, r2)) ∧ Aside0 (kq ≤ k1) ∧ Aside0 (Below w.heap.size w wc))
                case first =>
                  have H := HC10.out
                  clear HC10
                  by_cases c11 : x15_1 = 0
                  · rw [if_pos c11] at H
                    have c11b0 : (x15_1 == 0) = true := beq_iff_eq.mpr c11
                    have c11b1 : (x15_1 != 0) = false := bne_eq_false_iff_eq.mpr c11
                    clear c11
                    (first | rw [c11b0] | (simp only [i64_w, i32_w]; rw [c11b0]) | skip)
                    have H' := Aside0.mk H
                    clear H
                    go_wp2
                    go_meet
                    case rel => exact ⟨_, (((rd (l0.take ((ji3) : Int).toNat) x15_1) == 128)), (by first | rfl | (simp; done) | (simp [← hji3, mn, mx]; done) | (simp only [← hji3] <;> (first | rfl | simp)) | (simp [*]; done)), H', ⟨by have := HK1.out; first | omega | exact Nat.le_refl _⟩, ⟨by repeat (first | (with_reducible first | exact HB.out | apply below_alloc | apply pw_below_drewN | apply below_drew1) | exact HB.out)⟩⟩
                  · rw [if_neg c11] at H
                    have c11b0 : (x15_1 == 0) = false := beq_eq_false_iff_ne.mpr c11
                    have c11b1 : (x15_1 != 0) = true := bne_iff_ne.mpr c11
                    (first | rw [c11b0] | (simp only [i64_w, i32_w]; rw [c11b0]) | skip)
                    have H' := Aside0.mk H
                    clear H
                    go_wp2
                    go_meet
                    case rel => exact ⟨_, (false), (by first | rfl | (simp; done) | (simp [*]; done)), H', ⟨by have := HK1.out; first | omega | exact Nat.le_refl _⟩, ⟨by repeat (first | (with_reducible first | exact HB.out | apply below_alloc | apply pw_below_drewN | apply below_drew1) | exact HB.out)⟩⟩
                case rest =>
                  clear HC10
                  try clear c1
                  try clear p1
                  try clear q1
                  try clear hx1
                  try clear p2
                  try clear c3
                  try clear c4
                  try clear c4b0
                  try clear c4b1
                  try clear c5
                  try clear c5b0
                  try clear c5b1
                  try clear c7
                  try clear c7b0
                  try clear c8
                  try clear c8b0
                  try clear c9
                  try clear c9b0
                  try clear p10
                  try clear q10
                  try clear hx10
                  try clear c11
                  try clear c11b0
                  try clear c11b1
                  try clear hx102_0
                  try clear p102
                  try clear p2
                  try clear q102
                  obtain ⟨kq, x25_9, rfl, HA, HJ9, HB⟩ := hcut
                  cases kq with
                  | zero => exact absurd HA.out (by simp [bytes_number.j1])
                  | succ kj9 =>
                    have H := HA.out
                    clear HA
                    simp only [bytes_number.j1] at H
                    by_cases c12 : x25_9 = true
                    · subst c12
                      have H1 : (some (0, 0)) = some (r1, r2) := by rw [if_pos rfl] at H; exact H
                      clear H
                      have H := H1
                      clear H1
                      simp only [Option.some.injEq, Prod.mk.injEq] at H
                      obtain ⟨rfl, rfl⟩ := H
                      go_wp2
                      go_ret2
                      exact ⟨by first | rfl | (simp [errW_none, errW_some] <;> rfl) | (simp only [← hji3]; first | rfl | (simp [errW_none, errW_some] <;> rfl)) | (simp [*, errW_none, errW_some] <;> rfl), by repeat (first | (with_reducible first | exact HB.out | apply below_alloc | apply pw_below_drewN | apply below_drew1) | exact HB.out)⟩
                    · replace c12 := Bool.eq_false_iff.mpr c12
                      subst c12
                      have H1 : (if (rd (l0.take ((ji3) : Int).toNat) x15_1) ≥ 128 then (bytes_number.l0 kj9 a1 (wrap64 ((wrap64 (x6_1 * 128)) + (Int.tmod (wrap64 ((rd (l0.take ((ji3) : Int).toNat) x15_1))) 128))) (l0.take ((ji3) : Int).toNat) ((l0.take ((ji3) : Int).toNat).length : Int) (wrap64 (x15_1 + 1))) else (if (wrap64 ((wrap64 (x6_1 * 128)) + (Int.tmod (wrap64 ((rd (l0.take ((ji3) : Int).toNat) x15_1))) 128))) > a1 then (some (0, 0)) else (some (wrap64 ((wrap64 (x6_1 * 128)) + (Int.tmod (wrap64 ((rd (l0.take ((ji3) : Int).toNat) x15_1))) 128)), wrap64 (x15_1 + 1))))) = some (r1, r2) := by rw [if_neg (show ¬ (false = true) by decide)] at H; exact H
                      clear H
                      have H := H1
                      clear H1
                      by_cases c13 : (rd (l0.take ((ji3) : Int).toNat) x15_1) ≥ 128
                      · rw [if_pos c13] at H
                        have c13b0 : decide (128 ≤ (rd (l0.take ((ji3) : Int).toNat) x15_1)) = true := decide_eq_true c13
                        clear c13
                        have H' := Aside0.mk H
                        clear H
                        go_wp2
                        go_roundg kj9
                        case measure => have := HK1.out; have := HJ9.out; omega
                        case rel => exact ⟨(wrap64 ((wrap64 (x6_1 * 128)) + (Int.tmod (wrap64 ((rd (l0.take ((ji3) : Int).toNat) x15_1))) 128))), (wrap64 (x15_1 + 1)), (by first | rfl | (simp; done) | (simp [← hji3, mn, mx]; done) | (simp only [← hji3] <;> (first | rfl | simp)) | (simp [*]; done)), (by first | rfl | (simp; done) | (simp [*]; done)), H', ⟨by have := HK1.out; have := HJ9.out; omega⟩, ⟨by repeat (first | (with_reducible first | exact HB.out | apply below_alloc | apply pw_below_drewN | apply below_drew1) | exact HB.out)⟩⟩
                      · rw [if_neg c13] at H
                        have c13b0 : decide (128 ≤ (rd (l0.take ((ji3) : Int).toNat) x15_1)) = false := decide_eq_false c13
                        clear c13
                        by_cases c14 : (wrap64 ((wrap64 (x6_1 * 128)) + (Int.tmod (wrap64 ((rd (l0.take ((ji3) : Int).toNat) x15_1))) 128))) > a1
                        · rw [if_pos c14] at H
                          have c14b0 : decide (a1 < (wrap64 ((wrap64 (x6_1 * 128)) + (Int.tmod (wrap64 ((rd (l0.take ((ji3) : Int).toNat) x15_1))) 128)))) = true := decide_eq_true c14
                          clear c14
                          simp only [Option.some.injEq, Prod.mk.injEq] at H
                          obtain ⟨rfl, rfl⟩ := H
                          go_wp2
                          go_ret2
                          exact ⟨by first | rfl | (simp [errW_none, errW_some] <;> rfl) | (simp only [← hji3]; first | rfl | (simp [errW_none, errW_some] <;> rfl)) | (simp [*, errW_none, errW_some] <;> rfl), by repeat (first | (with_reducible first | exact HB.out | apply below_alloc | apply pw_below_drewN | apply below_drew1) | exact HB.out)⟩
                        · rw [if_neg c14] at H
                          have c14b0 : decide (a1 < (wrap64 ((wrap64 (x6_1 * 128)) + (Int.tmod (wrap64 ((rd (l0.take ((ji3) : Int).toNat) x15_1))) 128)))) = false := decide_eq_false c14
                          clear c14
                          simp only [Option.some.injEq, Prod.mk.injEq] at H
                          obtain ⟨rfl, rfl⟩ := H
                          go_wp2
                          go_ret2
                          exact ⟨by first | rfl | (simp [errW_none, errW_some] <;> rfl) | (simp only [← hji3]; first | rfl | (simp [errW_none, errW_some] <;> rfl)) | (simp [*, errW_none, errW_some] <;> rfl), by repeat (first | (with_reducible first | exact HB.out | apply below_alloc | apply pw_below_drewN | apply below_drew1) | exact HB.out)⟩
              · rw [if_neg c9] at H
                exact absurd H (by simp)
            · rw [if_neg c8] at H
              exact absurd H (by simp)
          · rw [if_neg c7] at H
            have c7b0 : decide (x15_1 < ((l0.take ((ji3) : Int).toNat).length : Int)) = false := decide_eq_false c7
            have c7b0x := c7b0
            (try rw [hlen3] at c7b0x)
            clear c7
            simp only [Option.some.injEq, Prod.mk.injEq] at H
            obtain ⟨rfl, rfl⟩ := H
            go_wp2
            go_ret2
            exact ⟨by first | rfl | (simp [errW_none, errW_some] <;> rfl) | (simp only [← hji3]; first | rfl | (simp [errW_none, errW_some] <;> rfl)) | (simp [*, errW_none, errW_some] <;> rfl), by repeat (first | (with_reducible first | exact HB.out | apply below_alloc | apply pw_below_drewN | apply below_drew1) | exact HB.out)⟩
    · rw [if_neg c5] at H
      exact absurd H (by simp)
  · rw [if_neg c4] at H
    exact absurd H (by simp)

end Go.Proofs.Ytkncmbbkehnagaa.PAll

set_option linter.unusedVariables false
set_option linter.unusedSimpArgs false
/-! The reader of the package bytes: its methods' contracts. -/
namespace Go.Proofs.Ytkncmbbkehnagaa.Rdr
open Go.RowKit Go.Proofs.YtkncmbbkehnagaaW.PrintWords Go.Proofs.YtkncmbbkehnagaaW.PrintLast Go.Proofs.YtkncmbbkehnagaaW.PrintMore Go.Proofs.Ytkncmbbkehnagaa.PAll
attribute [local go_sem] max2_int min2_int max_two min_two max_three min_three max_four min_four

/-- A reader (a struct of type t) in block g: what is left, and its error. What is left lies below w0. -/
def IsRd (t : Nat) (w0 W : World) (g : Nat) (l : List Int) (e : Int) : Prop := ∃ A c, W.heap[g]? = some (.cells #[.slice A l.length c, .int .i64 e] t (0, 0)) ∧ w0.heap.size ≤ g ∧ Kd.C (Kd.int .u8) w0 A l.length l ∧ l.length ≤ c
theorem IsRd.keep {t : Nat} {w0 W W1 : World} {g : Nat} {l : List Int} {e : Int} (h : IsRd t w0 W g l e) (hk : W1.heap[g]? = W.heap[g]?) : IsRd t w0 W1 g l e := by
  obtain ⟨A, c, hb, r⟩ := h
  exact ⟨A, c, hk.trans hb, r⟩
theorem IsRd.lt {t : Nat} {w0 W : World} {g : Nat} {l : List Int} {e : Int} (h : IsRd t w0 W g l e) : g < W.heap.size := by
  obtain ⟨A, c, hb, _⟩ := h
  exact blk_lt hb
theorem IsRd.ge {t : Nat} {w0 W : World} {g : Nat} {l : List Int} {e : Int} (h : IsRd t w0 W g l e) : w0.heap.size ≤ g := by
  obtain ⟨A, c, _, hg, _⟩ := h
  exact hg
theorem IsRd.below {t : Nat} {w0 W W1 : World} {g : Nat} {l : List Int} {e : Int} (h : IsRd t w0 W g l e) (hb : Below W.heap.size W W1) : IsRd t w0 W1 g l e := h.keep (hb.block g h.lt)
theorem IsRd.but {t : Nat} {w0 W W1 : World} {g g' : Nat} {l : List Int} {e : Int} (h : IsRd t w0 W g l e) (hk : KeepBut W W1 g' none) (hg : g ≠ g') : IsRd t w0 W1 g l e := h.keep (hk.2 g h.lt hg (by simp))
theorem IsRd.cell0 {t : Nat} {W : World} {g : Nat} {A : Option Addr} {n c : Nat} {e : Int} (h : W.heap[g]? = some (.cells #[.slice A n c, .int .i64 e] t (0, 0))) : W.cell? ⟨g, 0, none⟩ = some (.slice A n c) := (blk_cell h 0).trans rfl
theorem IsRd.cell1 {t : Nat} {W : World} {g : Nat} {A : Option Addr} {n c : Nat} {e : Int} (h : W.heap[g]? = some (.cells #[.slice A n c, .int .i64 e] t (0, 0))) : W.cell? ⟨g, 1, none⟩ = some (.int .i64 e) := (blk_cell h 1).trans rfl
theorem IsRd.set1 {t : Nat} {w0 W : World} {g : Nat} {l : List Int} {e : Int} (h : IsRd t w0 W g l e) (x : Int) : IsRd t w0 (W.setCell ⟨g, 1, none⟩ (.int .i64 x)) g l x := by
  obtain ⟨A, c, hb, r⟩ := h
  exact ⟨A, c, by simpa using blk_set hb 1 (.int .i64 x), r⟩
theorem IsRd.set0 {t : Nat} {w0 W : World} {g : Nat} {l l' : List Int} {e : Int} (h : IsRd t w0 W g l e) {A' : Option Addr} {n' c' : Nat} (hn : n' = l'.length) (hC : Kd.C (Kd.int .u8) w0 A' l'.length l') (hc : l'.length ≤ c') : IsRd t w0 (W.setCell ⟨g, 0, none⟩ (.slice A' n' c')) g l' e := by
  obtain ⟨A, c, hb, hg, _⟩ := h
  subst hn
  exact ⟨A', c', by simpa using blk_set hb 0 (.slice A' l'.length c'), hg, hC, hc⟩

set_option maxHeartbeats 2000000 in
set_option maxRecDepth 100000 in
theorem left (w0 w : World) (g : Nat) (l : List Int) (e : Int) (hI : IsRd 138 w0 w g l e) : Calls Try.prog 68 #[.pointer (some ⟨g, 0, none⟩)] w fun ev w' => ev = .returned (.int .i64 (l.length : Int)) ∧ Below w.heap.size w w' := by
  obtain ⟨A, c, hb, hg, hC, hc⟩ := hI
  have h0 := IsRd.cell0 hb
  clear hb hC
  go_enter Try.func68, Try.ntmps68
  go_wp2
  go_ret
  exact ⟨rfl, Below.refl _ _⟩
set_option maxHeartbeats 2000000 in
set_option maxRecDepth 100000 in
theorem off (w0 w : World) (g : Nat) (l : List Int) (e : Int) (hI : IsRd 138 w0 w g l e) : Calls Try.prog 73 #[.pointer (some ⟨g, 0, none⟩)] w fun ev w' => ev = .returned (.bool (e != 0)) ∧ Below w.heap.size w w' := by
  obtain ⟨A, c, hb, hg, hC, hc⟩ := hI
  have h1 := IsRd.cell1 hb
  clear hb hC
  go_enter Try.func73, Try.ntmps73
  go_wp2
  go_ret
  exact ⟨rfl, Below.refl _ _⟩

set_option maxHeartbeats 4000000 in
set_option maxRecDepth 100000 in
theorem numberOff (w0 w : World) (g : Nat) (l : List Int) (e most : Int) (hI : IsRd 138 w0 w g l e) (hB : Below w0.heap.size w0 w) (he : e ≠ 0) :
    Calls Try.prog 65 #[.pointer (some ⟨g, 0, none⟩), .int .i64 most] w fun ev w' => ev = .returned (.int .i64 0) ∧ IsRd 138 w0 w' g l e ∧ Below w0.heap.size w0 w' ∧ KeepBut w w' g none := by
  have HI := Aside0.mk hI
  have HB := Aside0.mk hB
  have hb0 : (e != 0) = true := by simpa using he
  clear hI hB he
  go_enter Try.func65, Try.ntmps65
  go_wp2_with (go_at_call 73; refine (off w0 _ g l e HI.out).mono ?_; rintro ev w1 ⟨rfl, hb⟩; have HB1 := Aside0.mk hb; clear hb)
  go_ret
  exact ⟨rfl, HI.out.below HB1.out, below_weaken HB.out HB.out.size HB1.out, KeepBut.of_below HB1.out _ _⟩


/-- What a walk wants of the block's two cells. -/
theorem cells_of {w : World} {g t n c : Nat} {A : Option Addr} {e : Int} (h : w.heap[g]? = some (.cells #[.slice A n c, .int .i64 e] t (0, 0))) :
    w.cell? ⟨g, 0, none⟩ = some (.slice A n c) ∧ w.cell? ⟨g, 1, none⟩ = some (.int .i64 e) ∧ w.frozen? ⟨g, 0, none⟩ = false ∧ w.frozen? ⟨g, 1, none⟩ = false := ⟨IsRd.cell0 h, IsRd.cell1 h, blk_frozen h 0, blk_frozen h 1⟩
theorem set_err {w : World} {g t n c : Nat} {A : Option Addr} {e : Int} (h : w.heap[g]? = some (.cells #[.slice A n c, .int .i64 e] t (0, 0))) (x : Int) : (w.setCell ⟨g, 1, none⟩ (.int .i64 x)).heap[g]? = some (.cells #[.slice A n c, .int .i64 x] t (0, 0)) := by simpa using blk_set h 1 (.int .i64 x)
theorem cut_rd {w0 : World} {A : Option Addr} {c : Nat} {l : List Int} {size : Int} (hC : Kd.C (Kd.int .u8) w0 A l.length l) (hc : l.length ≤ c) (h0 : 0 ≤ size) (h1 : size ≤ l.length) :
    ∃ A' c', (∀ W : World, (Instr.slice 26 (.slice A l.length c) (some (.int .i64 size)) none none).run Try.prog W = .ok (.slice A' (l.drop size.toNat).length c') W) ∧ Kd.C (Kd.int .u8) w0 A' (l.drop size.toNat).length (l.drop size.toNat) ∧ (l.drop size.toNat).length ≤ c' := by
  obtain ⟨i5, hi5, hz5, hs5, hb5⟩ := info_parts info5
  have hcut := cut_from (P := Try.prog) 26 5 .i64 Try.underlying26 hi5 1 hs5 A l.length c size h0 h1
  have hd := Kd.C_drop (m := size.toNat) (c := c) hC (by omega) hc
  have hl : l.length - size.toNat = (l.drop size.toNat).length := by rw [List.length_drop]
  rw [hl] at hcut
  exact ⟨_, _, hcut, hd, by rw [List.length_drop]; omega⟩
theorem mid_rd {w0 : World} {A : Option Addr} {c : Nat} {l : List Int} {lo hi : Int} (hC : Kd.C (Kd.int .u8) w0 A l.length l) (hc : l.length ≤ c) (h0 : 0 ≤ lo) (h1 : lo ≤ hi) (h2 : hi ≤ l.length) :
    ∃ A' c', (∀ W : World, (Instr.slice 26 (.slice A l.length c) (some (.int .i64 lo)) (some (.int .i64 hi)) none).run Try.prog W = .ok (.slice A' ((l.take hi.toNat).drop lo.toNat).length c') W) ∧ Kd.C (Kd.int .u8) w0 A' ((l.take hi.toNat).drop lo.toNat).length ((l.take hi.toNat).drop lo.toNat) ∧ ((l.take hi.toNat).drop lo.toNat).length ≤ c' := by
  obtain ⟨i5, hi5, hz5, hs5, hb5⟩ := info_parts info5
  have hcut := cut_mid (P := Try.prog) 26 5 .i64 .i64 Try.underlying26 hi5 1 hs5 A l.length c lo hi h0 h1 h2 hc
  have hd := Kd.C_mid (lo := lo.toNat) (hi := hi.toNat) (c := c) hC (by omega) (by omega) hc
  have hl : hi.toNat - lo.toNat = ((l.take hi.toNat).drop lo.toNat).length := by rw [List.length_drop, List.length_take]; omega
  rw [hl] at hcut
  exact ⟨_, _, hcut, hd, by rw [← hl]; omega⟩
theorem upto_rd {w0 : World} {A : Option Addr} {c : Nat} {l : List Int} {hi : Int} (hC : Kd.C (Kd.int .u8) w0 A l.length l) (hc : l.length ≤ c) (h0 : 0 ≤ hi) (h2 : hi ≤ l.length) :
    ∃ A' c', (∀ W : World, (Instr.slice 26 (.slice A l.length c) none (some (.int .i64 hi)) none).run Try.prog W = .ok (.slice A' (l.take hi.toNat).length c') W) ∧ Kd.C (Kd.int .u8) w0 A' (l.take hi.toNat).length (l.take hi.toNat) ∧ (l.take hi.toNat).length ≤ c' := by
  obtain ⟨i5, hi5, hz5, hs5, hb5⟩ := info_parts info5
  have hcut := cut_to (P := Try.prog) 26 5 .i64 Try.underlying26 hi5 A l.length c hi h0 h2 hc
  have hd := Kd.C_take (m := hi.toNat) hC (by omega)
  have hl : hi.toNat = (l.take hi.toNat).length := by rw [List.length_take]; omega
  rw [hl] at hcut
  exact ⟨_, _, hcut, hd, by rw [← hl]; omega⟩

set_option maxHeartbeats 4000000 in
set_option maxRecDepth 100000 in
theorem number (k : Nat) (w0 w : World) (g : Nat) (l : List Int) (most n size : Int) (hI : IsRd 138 w0 w g l 0) (hB : Below w0.heap.size w0 w) (h : bytes_number.f k l most = some (n, size)) (h0 : 0 ≤ size) (h1 : size ≤ l.length) :
    Calls Try.prog 65 #[.pointer (some ⟨g, 0, none⟩), .int .i64 most] w fun ev w' => ev = .returned (.int .i64 n) ∧ IsRd 138 w0 w' g (l.drop size.toNat) (if size = 0 then 5 else 0) ∧ Below w0.heap.size w0 w' ∧ KeepBut w w' g none := by
  have HI := Aside0.mk hI
  obtain ⟨A, c, hb, hg, hC, hc⟩ := hI
  obtain ⟨A', c', hcut, hD, hc'⟩ := cut_rd hC hc h0 h1
  have hcell := IsRd.cell0 hb
  have HK := Aside0.mk hb
  have HC := Aside0.mk hC
  have HCZ := Aside0.mk hc
  have HG := Aside0.mk hg
  have HB := Aside0.mk hB
  have H := Aside0.mk h
  have HD := Aside0.mk hD
  have HDZ := Aside0.mk hc'
  obtain ⟨l', hl'⟩ : ∃ l', l.drop size.toNat = l' := ⟨_, rfl⟩
  rw [hl'] at hcut HD HDZ ⊢
  clear hb hC hB h hc hg h1 h0 hl' hD hc'
  by_cases hz : size = 0
  · subst hz
    rw [if_pos rfl]
    go_enter Try.func65, Try.ntmps65
    go_wp2_with (go_at_call 73; refine (off w0 _ g l 0 HI.out).mono ?_; rintro ev w1 ⟨rfl, hb⟩; have HB1 := Aside0.mk hb; replace hcell := pw_cell_below hb hcell; clear hb)
    go_wp2_with (go_at_call 74; refine (bytes_number.calls k A c l most n 0 _ (Kd.C_below HC.out (below_weaken HB.out HB.out.size HB1.out)) HCZ.out H.out).mono ?_; rintro ev w2 ⟨rfl, hb⟩; have HB2 := Aside0.mk (below_step HB1.out hb); clear hb hcell; have hk2 : w2.heap[g]? = _ := (HB2.out.block g HI.out.lt).trans HK.out; obtain ⟨q0, q1, q2, q3⟩ := cells_of hk2; have hk3 := set_err hk2 5; obtain ⟨r0, r1, r2, r3⟩ := cells_of hk3; clear hk2 hk3)
    go_ret
    exact ⟨rfl, ((HI.out.below HB2.out).set1 5).set0 rfl HD.out HDZ.out, ((below_weaken HB.out HB.out.size HB2.out).setCell HG.out _).setCell HG.out _, ((KeepBut.of_below HB2.out g none).set_ 1 _).set_ 0 _⟩
  · rw [if_neg hz]
    have hz1 : (size == 0) = false := by simpa using hz
    clear hz
    go_enter Try.func65, Try.ntmps65
    go_wp2_with (go_at_call 73; refine (off w0 _ g l 0 HI.out).mono ?_; rintro ev w1 ⟨rfl, hb⟩; have HB1 := Aside0.mk hb; replace hcell := pw_cell_below hb hcell; clear hb)
    go_wp2_with (go_at_call 74; refine (bytes_number.calls k A c l most n size _ (Kd.C_below HC.out (below_weaken HB.out HB.out.size HB1.out)) HCZ.out H.out).mono ?_; rintro ev w2 ⟨rfl, hb⟩; have HB2 := Aside0.mk (below_step HB1.out hb); clear hb hcell; have hk2 : w2.heap[g]? = _ := (HB2.out.block g HI.out.lt).trans HK.out; obtain ⟨q0, q1, q2, q3⟩ := cells_of hk2; clear hk2)
    go_ret
    exact ⟨rfl, (HI.out.below HB2.out).set0 rfl HD.out HDZ.out, (below_weaken HB.out HB.out.size HB2.out).setCell HG.out _, (KeepBut.of_below HB2.out g none).set_ 0 _⟩

set_option maxHeartbeats 4000000 in
set_option maxRecDepth 100000 in
theorem textOff (w0 w : World) (g : Nat) (l : List Int) (e most : Int) (hI : IsRd 138 w0 w g l e) (hB : Below w0.heap.size w0 w) (he : e ≠ 0) :
    Calls Try.prog 66 #[.pointer (some ⟨g, 0, none⟩), .int .i64 most] w fun ev w' => ev = .returned (.slice none 0 0) ∧ IsRd 138 w0 w' g l e ∧ Below w0.heap.size w0 w' ∧ KeepBut w w' g none := by
  have HI := Aside0.mk hI
  have HB := Aside0.mk hB
  have hb0 : (e != 0) = true := by simpa using he
  clear hI hB he
  go_enter Try.func66, Try.ntmps66
  go_wp2_with (go_at_call 73; refine (off w0 _ g l e HI.out).mono ?_; rintro ev w1 ⟨rfl, hb⟩; have HB1 := Aside0.mk hb; clear hb)
  go_ret
  exact ⟨rfl, HI.out.below HB1.out, below_weaken HB.out HB.out.size HB1.out, KeepBut.of_below HB1.out _ _⟩

set_option maxHeartbeats 4000000 in
set_option maxRecDepth 100000 in
theorem textBad (k : Nat) (w0 w : World) (g : Nat) (l : List Int) (most n size : Int) (hI : IsRd 138 w0 w g l 0) (hB : Below w0.heap.size w0 w) (h : bytes_number.f k l most = some (n, size)) (h0 : 0 ≤ size) (h1 : size ≤ l.length) (hl : l.length ≤ 1000000) (hbad : size = 0 ∨ n > l.length - size) :
    Calls Try.prog 66 #[.pointer (some ⟨g, 0, none⟩), .int .i64 most] w fun ev w' => ev = .returned (.slice none 0 0) ∧ IsRd 138 w0 w' g l 5 ∧ Below w0.heap.size w0 w' ∧ KeepBut w w' g none := by
  have HI := Aside0.mk hI
  obtain ⟨A, c, hb, hg, hC, hc⟩ := hI
  have hcell := IsRd.cell0 hb
  have HK := Aside0.mk hb
  have HC := Aside0.mk hC
  have HCZ := Aside0.mk hc
  have HG := Aside0.mk hg
  have HB := Aside0.mk hB
  have H := Aside0.mk h
  clear hb hC hB h hc hg
  have hw : wrap64 ((l.length : Int) - size) = (l.length : Int) - size := by unfold wrap64; omega
  have hm : (l.length : Int) ≤ 1000000 := by omega
  clear h0 h1 hl
  by_cases hz : size = 0
  · subst hz
    clear hbad
    go_enter Try.func66, Try.ntmps66
    go_wp2_with (go_at_call 73; refine (off w0 _ g l 0 HI.out).mono ?_; rintro ev w1 ⟨rfl, hb⟩; have HB1 := Aside0.mk hb; replace hcell := pw_cell_below hb hcell; clear hb)
    go_wp2_with (go_at_call 74; refine (bytes_number.calls k A c l most n 0 _ (Kd.C_below HC.out (below_weaken HB.out HB.out.size HB1.out)) HCZ.out H.out).mono ?_; rintro ev w2 ⟨rfl, hb⟩; have HB2 := Aside0.mk (below_step HB1.out hb); clear hb hcell; have hk2 : w2.heap[g]? = _ := (HB2.out.block g HI.out.lt).trans HK.out; obtain ⟨q0, q1, q2, q3⟩ := cells_of hk2; clear hk2)
    go_ret
    exact ⟨rfl, (HI.out.below HB2.out).set1 5, (below_weaken HB.out HB.out.size HB2.out).setCell HG.out _, (KeepBut.of_below HB2.out g none).set_ 1 _⟩
  · have hz1 : (size == 0) = false := by simpa using hz
    have hz2 : n > (l.length : Int) - size := by omega
    clear hz hbad
    go_enter Try.func66, Try.ntmps66
    go_wp2_with (go_at_call 73; refine (off w0 _ g l 0 HI.out).mono ?_; rintro ev w1 ⟨rfl, hb⟩; have HB1 := Aside0.mk hb; replace hcell := pw_cell_below hb hcell; clear hb)
    go_wp2_with (go_at_call 74; refine (bytes_number.calls k A c l most n size _ (Kd.C_below HC.out (below_weaken HB.out HB.out.size HB1.out)) HCZ.out H.out).mono ?_; rintro ev w2 ⟨rfl, hb⟩; have HB2 := Aside0.mk (below_step HB1.out hb); clear hb hcell; have hk2 : w2.heap[g]? = _ := (HB2.out.block g HI.out.lt).trans HK.out; obtain ⟨q0, q1, q2, q3⟩ := cells_of hk2; clear hk2)
    go_ret
    exact ⟨rfl, (HI.out.below HB2.out).set1 5, (below_weaken HB.out HB.out.size HB2.out).setCell HG.out _, (KeepBut.of_below HB2.out g none).set_ 1 _⟩

set_option maxHeartbeats 4000000 in
set_option maxRecDepth 100000 in
theorem text (k : Nat) (w0 w : World) (g : Nat) (l : List Int) (most n size : Int) (hI : IsRd 138 w0 w g l 0) (hB : Below w0.heap.size w0 w) (h : bytes_number.f k l most = some (n, size)) (h0 : 0 < size) (h1 : size ≤ l.length) (hl : l.length ≤ 1000000) (h2 : 0 ≤ n) (h3 : n ≤ l.length - size) :
    Calls Try.prog 66 #[.pointer (some ⟨g, 0, none⟩), .int .i64 most] w fun ev w' => ∃ v : Value, ev = .returned v ∧ Kd.R (Kd.int .u8) 5 w' w0.heap.size (fun k_ => w.heap.size ≤ k_) v ((l.take (size + n).toNat).drop size.toNat) ∧ IsRd 138 w0 w' g (l.drop (size + n).toNat) 0 ∧ Below w0.heap.size w0 w' ∧ KeepBut w w' g none := by
  have HI := Aside0.mk hI
  obtain ⟨A, c, hb, hg, hC, hc⟩ := hI
  have hcell := IsRd.cell0 hb
  have HK := Aside0.mk hb
  have HC := Aside0.mk hC
  have HCZ := Aside0.mk hc
  have HG := Aside0.mk hg
  have HB := Aside0.mk hB
  have H := Aside0.mk h
  obtain ⟨A', c', hcut, hD, hc'⟩ := cut_rd (size := size + n) hC hc (by omega) (by omega)
  obtain ⟨A2, c2, hmid, hD2, hc2⟩ := mid_rd (lo := size) (hi := size + n) hC hc (by omega) (by omega) (by omega)
  have HD := Aside0.mk hD
  have HDZ := Aside0.mk hc'
  have HM := Aside0.mk hD2
  have HMZ := Aside0.mk hc2
  have HLen := Aside0.mk (show ((l.take (size + n).toNat).drop size.toNat).length * 1 ≤ 140737488355328 by rw [List.length_drop, List.length_take]; omega)
  obtain ⟨l', hl'⟩ : ∃ l', l.drop (size + n).toNat = l' := ⟨_, rfl⟩
  rw [hl'] at hcut HD HDZ ⊢
  obtain ⟨m, hm'⟩ : ∃ m, (l.take (size + n).toNat).drop size.toNat = m := ⟨_, rfl⟩
  rw [hm'] at hmid HM HMZ HLen ⊢
  have hw : wrap64 ((l.length : Int) - size) = (l.length : Int) - size := by unfold wrap64; omega
  have hw2 : wrap64 (size + n) = size + n := by unfold wrap64; omega
  have hz1 : (size == 0) = false := by have : size ≠ 0 := by omega
                                       simpa using this
  have hz2 : ¬ (n > (l.length : Int) - size) := by omega
  clear hb hC hB h hc hg h1 h0 hl' hD hc' hm' hD2 hc2 hl h2 h3
  go_enter Try.func66, Try.ntmps66
  go_wp2_with (go_at_call 73; refine (off w0 _ g l 0 HI.out).mono ?_; rintro ev w1 ⟨rfl, hb⟩; have HB1 := Aside0.mk hb; replace hcell := pw_cell_below hb hcell; clear hb)
  go_wp2_with (go_at_call 74; refine (bytes_number.calls k A c l most n size _ (Kd.C_below HC.out (below_weaken HB.out HB.out.size HB1.out)) HCZ.out H.out).mono ?_; rintro ev w2 ⟨rfl, hb⟩; have HB2 := Aside0.mk (below_step HB1.out hb); clear hb hcell; have hk2 : w2.heap[g]? = _ := (HB2.out.block g HI.out.lt).trans HK.out; obtain ⟨q0, q1, q2, q3⟩ := cells_of hk2; clear hk2)
  have HW := Aside0.mk (below_weaken HB.out HB.out.size HB2.out)
  refine (CloneByte.calls A2 c2 m _ (Kd.C_below HM.out HW.out) HMZ.out HLen.out).mono ?_
  rintro ev w3 ⟨v, rfl, hR, hb⟩
  have HR := Aside0.mk (Kd.R_lower (Kd.R_mono (Kd.R_bound hR) (fun k_ hk => Nat.le_trans HB2.out.size hk.2.1) : Kd.R (Kd.int .u8) 5 w3 w2.heap.size (fun k_ => w.heap.size ≤ k_) v m) HW.out.size)
  have HB3 := Aside0.mk (below_step HB2.out hb)
  clear hR hb q0 q1 q2 q3
  have hk3 : w3.heap[g]? = _ := (HB3.out.block g HI.out.lt).trans HK.out
  obtain ⟨q0, q1, q2, q3⟩ := cells_of hk3
  clear hk3
  go_wp2
  go_ret
  exact ⟨_, rfl, Kd.R_far HR.out (p := ⟨g, 0, none⟩) (fun k_ hk => by have := HI.out.lt; show k_ ≠ g; omega) _, (HI.out.below HB3.out).set0 rfl HD.out HDZ.out, (below_weaken HB.out HB.out.size HB3.out).setCell HG.out _, (KeepBut.of_below HB3.out g none).set_ 0 _⟩

set_option maxHeartbeats 4000000 in
set_option maxRecDepth 100000 in
/-- A reader of bytes: it reads a copy. w0 may be any world in which the copy lies: the world right behind the copy. -/
theorem newReader (w : World) (A : Option Addr) (c : Nat) (l : List Int) (hr : Kd.C (Kd.int .u8) w A l.length l) (hc : l.length ≤ c) (hl : l.length ≤ 1000000) :
    Calls Try.prog 64 #[.slice A l.length c] w fun ev w' => ∃ (g : Nat) (w0 : World), ev = .returned (.pointer (some ⟨g, 0, none⟩)) ∧ IsRd 138 w0 w' g l 0 ∧ Below w.heap.size w w0 ∧ Below w0.heap.size w0 w' := by
  have HR := Aside0.mk hr
  have HC := Aside0.mk hc
  have HL := Aside0.mk (show l.length * 1 ≤ 140737488355328 by omega)
  clear hr hc hl
  go_enter Try.func64, Try.ntmps64
  go_wp2_with (go_at_call 44; refine (CloneByte.calls A c l _ HR.out HC.out HL.out).mono ?_; rintro ev w1 ⟨v, rfl, hR, hb⟩; have HB1 := Aside0.mk hb; obtain ⟨A1, c1, rfl, hc1, hC1⟩ := Kd.R_reads hR; have HC1 := Aside0.mk hC1; have HZ1 := Aside0.mk hc1; clear hb hR hC1 hc1)
  go_ret
  exact ⟨w1.heap.size, w1, rfl, ⟨A1, c1, by simpa using heap_alloc_new w1 _, Nat.le_refl _, HC1.out, HZ1.out⟩, HB1.out, below_alloc (Below.refl _ _) _⟩

/-! ### a reader that there isn't -/
end Go.Proofs.Ytkncmbbkehnagaa.Rdr

set_option linter.unusedVariables false
set_option linter.unusedSimpArgs false
/-! Numbers as bytes, in plain words: what is written. -/
namespace Go.Proofs.Ytkncmbbkehnagaa.Pl1
open Go.RowKit Go.Proofs.YtkncmbbkehnagaaW.PrintWords Go.Proofs.YtkncmbbkehnagaaW.PrintLast Go.Proofs.YtkncmbbkehnagaaW.PrintMore Go.Proofs.Ytkncmbbkehnagaa.PAll

theorem w64 {n : Int} (h : -9223372036854775808 ≤ n) (h' : n ≤ 9223372036854775807) : wrap64 n = n := by unfold wrap64; omega
theorem rd_nat (v : List Int) (i : Nat) : rd v (i : Int) = v.getD i 0 := by simp [rd]
theorem wraps_i64 (n : Int) (h₀ : 0 ≤ n) (h₁ : n < 2 ^ 62) : IntKind.i64.wrap n = n := by rw [IntKind.wrap_i64]; omega
theorem and127 (x : Int) (h0 : 0 ≤ x) (h1 : x < 2 ^ 62) : Go.bits .and .i64 x 127 = x % 128 := bits_mask .i64 62 (by decide) wraps_i64 7 (by decide) x h0 h1
theorem or128 (y : Int) (h2 : 0 ≤ y) (h3 : y < 128) : Go.bits .or .u8 y 128 = y + 128 := by
  obtain ⟨a, rfl⟩ := Int.eq_ofNat_of_zero_le h2
  have h := (bits_nat .u8 8 (by decide) wraps_u8 a 128 (by omega) (by omega)).2
  have e : Go.bits .or .u8 (a : Int) 128 = ((a ||| 128 : Nat) : Int) := h
  rw [e]
  have : ∀ a : Fin 128, (a.val ||| 128) = a.val + 128 := by decide
  have := this ⟨a, by omega⟩
  simp only at this
  omega

/-! ### slices.Reverse -/
theorem rev_loop : ∀ (n : Nat) (A mid B : List Int), mid.length ≤ n → A.length + mid.length + B.length ≤ 1000000 →
    Ev (fun k => slices_Reverse_byte_byte.l0 k (A ++ mid ++ B) (A.length : Int) ((A.length : Int) + mid.length - 1)) (A ++ mid.reverse ++ B)
  | 0, A, mid, B, hn, hl => by
    have : mid = [] := List.length_eq_zero_iff.1 (by omega)
    subst this
    refine Ev.step (f := fun _ => some (A ++ [] ++ B)) (fun k => ?_) (Ev.now _)
    simp only [slices_Reverse_byte_byte.l0]
    rw [if_neg (by simp; omega)]
  | n + 1, A, [], B, hn, hl => by
    refine Ev.step (f := fun _ => some (A ++ [] ++ B)) (fun k => ?_) (Ev.now _)
    simp only [slices_Reverse_byte_byte.l0]
    rw [if_neg (by simp; omega)]
  | n + 1, A, x :: rest, B, hn, hl => by
    rcases List.eq_nil_or_concat rest with h | ⟨m, y, h⟩
    · subst h
      refine Ev.step (f := fun _ => some (A ++ [x] ++ B)) (fun k => ?_) (Ev.now _)
      simp only [slices_Reverse_byte_byte.l0]
      rw [if_neg (by simp)]
    · have h' : rest = m ++ [y] := by rw [h]; simp
      clear h
      subst h'
      have hml : (x :: (m ++ [y])).length = m.length + 2 := by simp
      have ih := rev_loop n (A ++ [y]) m (x :: B) (by omega) (by simp at *; omega)
      have e1 : ((A ++ [y]).length : Int) = (A.length : Int) + 1 := by simp
      have hlast : (A.length : Int) + ((x :: (m ++ [y])).length : Int) - 1 = ((A.length + m.length + 1 : Nat) : Int) := by rw [hml]; omega
      have hd : A ++ x :: (m ++ [y]) ++ B = A ++ (x :: (m ++ (y :: B))) := by simp
      have g1 : rd (A ++ (x :: (m ++ (y :: B)))) (A.length : Int) = x := by rw [rd_nat]; simp
      have g2 : rd (A ++ (x :: (m ++ (y :: B)))) ((A.length + m.length + 1 : Nat) : Int) = y := by
        rw [rd_nat, List.getD_eq_getElem?_getD, List.getElem?_append_right (by omega), show A.length + m.length + 1 - A.length = m.length + 1 by omega, List.getElem?_cons_succ, List.getElem?_append_right (by omega), Nat.sub_self]
        rfl
      have s1 : (A ++ (x :: (m ++ (y :: B)))).set A.length y = A ++ (y :: (m ++ (y :: B))) := by rw [List.set_append_right _ _ (Nat.le_refl _), Nat.sub_self]; rfl
      have s2 : (A ++ (y :: (m ++ (y :: B)))).set (A.length + m.length + 1) x = A ++ (y :: (m ++ (x :: B))) := by
        rw [List.set_append_right _ _ (by omega), show A.length + m.length + 1 - A.length = m.length + 1 by omega, List.set_cons_succ, List.set_append_right _ _ (by omega), Nat.sub_self]
        rfl
      have hln : (A ++ (x :: (m ++ (y :: B)))).length = A.length + m.length + B.length + 2 := by simp; omega
      have res : A ++ (x :: (m ++ [y])).reverse ++ B = A ++ [y] ++ m.reverse ++ (x :: B) := by simp
      rw [res]
      refine Ev.step (fun k => ?_) ih
      simp only [slices_Reverse_byte_byte.l0]
      rw [hlast, hd, if_pos (by omega), if_pos (by omega), if_pos (by omega), if_pos (by omega), if_pos (by omega), g1, g2, Int.toNat_natCast, Int.toNat_natCast, s1, s2, w64 (by omega) (by omega), w64 (by omega) (by omega), e1]
      congr 1
      · simp
      · omega
theorem rev_ev (l : List Int) (hl : l.length ≤ 1000000) : Ev (fun k => slices_Reverse_byte_byte.f k l) l.reverse := by
  have := rev_loop l.length [] l [] (Nat.le_refl _) (by simp; omega)
  simp only [List.nil_append, List.append_nil, List.length_nil] at this
  refine Ev.congr (fun k => ?_) this
  unfold slices_Reverse_byte_byte.f
  rw [w64 (by omega) (by omega)]
  simp

/-! ### a number's bytes -/
/-- The digits ahead of the last one, the highest first, each with 128. -/
def front (n : Nat) : List Int := if n = 0 then [] else front (n / 128) ++ [((n % 128 : Nat) : Int) + 128]
termination_by n
decreasing_by omega
def code (n : Nat) : List Int := front (n / 128) ++ [((n % 128 : Nat) : Int)]
theorem front_zero : front 0 = [] := by unfold front; simp
theorem front_pos (n : Nat) (h : n ≠ 0) : front n = front (n / 128) ++ [((n % 128 : Nat) : Int) + 128] := by
  rw [front, if_neg h]
theorem front_len : ∀ (d n : Nat), n < 128 ^ d → (front n).length ≤ d
  | 0, n, h => by
    have : n = 0 := by simpa using h
    subst this
    rw [front_zero]
    simp
  | d + 1, n, h => by
    by_cases hz : n = 0
    · subst hz; rw [front_zero]; simp
    · rw [front_pos n hz]
      have := front_len d (n / 128) (by rw [Nat.pow_succ] at h; omega)
      simp
      omega
/-- What a number is held to. -/
def clamp (n : Int) : Nat := (mn (mx n 0) 1099511627776).toNat
theorem clamp_le (n : Int) : clamp n ≤ 1099511627776 := by unfold clamp mn mx; split <;> split <;> omega
theorem clamp_int (n : Int) : mn (mx n 0) 1099511627776 = ((clamp n : Nat) : Int) := by unfold clamp mn mx; split <;> split <;> omega
theorem clamp_int2 (n : Int) : mx 0 (mn n 1099511627776) = ((clamp n : Nat) : Int) := by
  unfold clamp mn mx
  repeat' split
  all_goals omega
theorem clamp_of (n : Nat) (h : n ≤ 1099511627776) : clamp (n : Int) = n := by unfold clamp mn mx; split <;> split <;> omega
theorem code_len (n : Nat) (h : n ≤ 1099511627776) : (code n).length ≤ 6 ∧ 1 ≤ (code n).length := by
  have := front_len 5 (n / 128) (by omega)
  unfold code
  simp
  omega

theorem number_loop (b : List Int) (hb : b.length ≤ 100000) : ∀ (d n : Nat) (out : List Int), n < 128 ^ d → out.length + d ≤ 1000 → n ≤ 1099511627776 →
    Ev (fun k => bytes_Number.l0 k b (n : Int) out) (b ++ (front n ++ out.reverse)) := by
  intro d
  induction d with
  | zero =>
    intro n out h ho hn
    have : n = 0 := by simpa using h
    subst this
    rw [front_zero, List.nil_append]
    refine Ev.step (f := fun k => (slices_Reverse_byte_byte.f k out).bind fun t115 => ((slices_Concat_byte_byte.f k (([b, t115] : List (List Int)))).bind fun t119 => (some t119))) (fun k => ?_) (Ev.bind (rev_ev out (by omega)) ?_)
    · simp only [bytes_Number.l0]
      rw [if_neg (by omega)]
    · refine Ev.congr (f := fun _ => some (b ++ out.reverse)) (fun k => ?_) (Ev.now _)
      have : slices_Concat_byte_byte.f k [b, out.reverse] = some (b ++ out.reverse) := by
        unfold slices_Concat_byte_byte.f
        rw [if_pos ⟨by simp, by simp [Cc.lens]; omega⟩]
        simp
      simp only [this, Option.bind_some]
  | succ d ih =>
    intro n out h ho hn
    by_cases hz : n = 0
    · subst hz
      have := ih 0 out (Nat.two_pow_pos 0 |> fun _ => Nat.pow_pos (by decide)) (by omega) (by omega)
      exact this
    · have hp : n / 128 < 128 ^ d := by rw [Nat.pow_succ] at h; omega
      have := ih (n / 128) (out ++ [((n % 128 : Nat) : Int) + 128]) hp (by simp; omega) (by omega)
      rw [List.reverse_append] at this
      have e : front n ++ out.reverse = front (n / 128) ++ ([((n % 128 : Nat) : Int) + 128].reverse ++ out.reverse) := by rw [front_pos n hz]; simp
      rw [e]
      refine Ev.step (fun k => ?_) this
      simp only [bytes_Number.l0]
      have h1 : Int.tdiv (n : Int) 128 = ((n / 128 : Nat) : Int) := by rw [Int.tdiv_eq_ediv_of_nonneg (by omega)]; omega
      have h2 : Int.tmod (n : Int) 128 = ((n % 128 : Nat) : Int) := by rw [Int.tmod_eq_emod_of_nonneg (by omega)]; omega
      rw [if_pos (by omega), if_pos (by omega), h1, h2, w64 (by omega) (by omega), w64 (by omega) (by omega), Int.emod_eq_of_lt (by omega) (by omega)]
theorem number_ev (b : List Int) (hb : b.length ≤ 100000) (n : Int) : Ev (fun k => bytes_Number.f k b n) (b ++ code (clamp n)) := by
  have hc := clamp_le n
  have := number_loop b hb 6 (clamp n / 128) [((clamp n % 128 : Nat) : Int)] (by omega) (by simp) (by omega)
  refine Ev.congr (fun k => ?_) this
  unfold bytes_Number.f
  rw [clamp_int]
  congr 1
theorem text_ev (b s : List Int) (hb : b.length ≤ 100000) (hs : s.length ≤ 100000) : Ev (fun k => bytes_Text.f k b s) (b ++ code s.length ++ s) := by
  have h := number_ev b hb (s.length : Int)
  rw [clamp_of _ (by omega)] at h
  have hl := code_len s.length (by omega)
  refine Ev.congr (fun k => by unfold bytes_Text.f; rfl) (Ev.bind h ?_)
  refine Ev.congr (fun k => by rw [if_pos (by simp; omega)]) (Ev.now _)

/-! ### the document's -/
/-- The digits, the lowest first, without 128. -/
def lows (n : Nat) : List Int := ((n % 128 : Nat) : Int) :: (if n / 128 = 0 then [] else lows (n / 128))
termination_by n
decreasing_by omega
theorem lows_zero (n : Nat) (h : n / 128 = 0) : lows n = [((n % 128 : Nat) : Int)] := by rw [lows, if_pos h]
theorem lows_pos (n : Nat) (h : n / 128 ≠ 0) : lows n = ((n % 128 : Nat) : Int) :: lows (n / 128) := by rw [lows, if_neg h]
theorem lows_small : ∀ (d n : Nat), n < 128 ^ d → ∀ x ∈ lows n, 0 ≤ x ∧ x < 128
  | 0, n, h => by
    have : n = 0 := by simpa using h
    subst this
    rw [lows_zero 0 rfl]
    intro x hx
    rw [List.mem_singleton] at hx
    subst hx
    decide
  | d + 1, n, h => by
    intro x hx
    by_cases hz : n / 128 = 0
    · rw [lows_zero n hz, List.mem_singleton] at hx
      omega
    · rw [lows_pos n hz] at hx
      rcases List.mem_cons.1 hx with h1 | h1
      · omega
      · exact lows_small d (n / 128) (by rw [Nat.pow_succ] at h; omega) x h1
theorem lows_front : ∀ (d n : Nat), n < 128 ^ d → n ≠ 0 → ((lows n).map (· + 128)).reverse = front n
  | 0, n, h, hz => by
    have : n = 0 := by simpa using h
    exact absurd this hz
  | d + 1, n, h, hz => by
    rw [front_pos n hz]
    by_cases hq : n / 128 = 0
    · rw [lows_zero n hq, hq, front_zero]; simp
    · rw [lows_pos n hq, List.map_cons, List.reverse_cons, lows_front d (n / 128) (by rw [Nat.pow_succ] at h; omega) hq]
/-- What the second loop writes: from place i down to the first. -/
theorem put_back (L : List Int) (hL : L.length ≤ 1000) (hs : ∀ x ∈ L, 0 ≤ x ∧ x < 128) : ∀ (i : Nat) (out : List Int), i < L.length → out.length + i ≤ 100000 →
    Ev (fun k => potsherdref3_PutNumber.l1 k out L (i : Int)) (out ++ (((L.take (i + 1)).drop 1).map (· + 128)).reverse ++ [L.getD 0 0])
  | 0, out, hi, ho => by
    have hz : (L.take 1).drop 1 = [] := List.drop_eq_nil_of_le (by rw [List.length_take]; omega)
    rw [hz]
    refine Ev.step (f := fun k => potsherdref3_PutNumber.l1 k (out ++ [rd L 0]) L (-1)) (fun k => ?_) (Ev.step (f := fun _ => some (out ++ [rd L 0])) (fun k => ?_) ?_)
    · simp only [potsherdref3_PutNumber.l1]
      rw [if_pos (by omega), if_pos (by omega), if_pos (by omega), if_neg (by omega), if_pos (by omega), w64 (by omega) (by omega)]
      rfl
    · simp only [potsherdref3_PutNumber.l1]
      rw [if_neg (by omega)]
    · have : rd L 0 = L.getD 0 0 := rd_nat L 0
      rw [this]
      simpa using Ev.now _
  | i + 1, out, hi, ho => by
    have hx : L.getD (i + 1) 0 ∈ L := by
      rw [List.getD_eq_getElem?_getD, List.getElem?_eq_getElem hi]
      exact List.getElem_mem _
    have hx2 := hs _ hx
    have ih := put_back L hL hs i (out ++ [L.getD (i + 1) 0 + 128]) (by omega) (by simp; omega)
    have e : (L.take (i + 1 + 1)).drop 1 = (L.take (i + 1)).drop 1 ++ [L.getD (i + 1) 0] := by
      rw [List.take_succ_eq_append_getElem hi, List.drop_append_of_le_length (by rw [List.length_take]; omega), List.getD_eq_getElem?_getD, List.getElem?_eq_getElem hi]
      rfl
    rw [e, List.map_append, List.reverse_append]
    have e2 : out ++ (List.reverse (List.map (· + 128) [L.getD (i + 1) 0]) ++ (List.map (· + 128) ((L.take (i + 1)).drop 1)).reverse) ++ [L.getD 0 0] = out ++ [L.getD (i + 1) 0 + 128] ++ (((L.take (i + 1)).drop 1).map (· + 128)).reverse ++ [L.getD 0 0] := by simp
    rw [e2]
    refine Ev.step (fun k => ?_) ih
    simp only [potsherdref3_PutNumber.l1]
    have hc : ((i + 1 : Nat) : Int) = (i : Int) + 1 := by omega
    rw [if_pos (by omega), if_pos (by omega), if_pos (by omega), if_pos (by omega), if_pos (by omega), w64 (by omega) (by omega), rd_nat, or128 _ hx2.1 hx2.2, show ((i + 1 : Nat) : Int) - 1 = (i : Int) by omega]
theorem put_loop (b : List Int) (hb : b.length ≤ 1000) : ∀ (d n : Nat) (out : List Int), n < 128 ^ d → out.length + d ≤ 900 → n ≤ 1099511627776 → (∀ x ∈ out, 0 ≤ x ∧ x < 128) →
    Ev (fun k => potsherdref3_PutNumber.l0 k b (n : Int) out) (b ++ ((((out ++ lows n)).drop 1).map (· + 128)).reverse ++ [(out ++ lows n).getD 0 0]) := by
  have fin : ∀ (n : Nat) (out : List Int), n / 128 = 0 → n ≤ 1099511627776 → out.length ≤ 900 → (∀ x ∈ out, 0 ≤ x ∧ x < 128) → Ev (fun k => potsherdref3_PutNumber.l0 k b (n : Int) out) (b ++ ((((out ++ lows n)).drop 1).map (· + 128)).reverse ++ [(out ++ lows n).getD 0 0]) := fun n out hq hn ho hs => by
    have hlow := lows_small 6 n (by omega)
    have hb := put_back (out ++ lows n) (by rw [lows_zero n hq]; simp; omega) (fun x hx => by
      rcases List.mem_append.1 hx with h1 | h1
      · exact hs x h1
      · exact hlow x h1) out.length b (by rw [lows_zero n hq]; simp) (by omega)
    rw [List.take_of_length_le (by rw [lows_zero n hq]; simp)] at hb
    refine Ev.step (fun k => ?_) hb
    simp only [potsherdref3_PutNumber.l0, Option.bind_some]
    rw [lows_zero n hq, if_pos (by omega), if_pos (by omega), and127 _ (by omega) (by omega), show ((n : Int) % 128) % 256 = ((n % 128 : Nat) : Int) by omega, w64 (by simp; try omega) (by simp; try omega)]
    congr 1
    simp
  intro d
  induction d with
  | zero =>
    intro n out h ho hn hs
    have : n = 0 := by simpa using h
    subst this
    exact fin 0 out rfl (by omega) (by omega) hs
  | succ d ih =>
    intro n out h ho hn hs
    by_cases hq : n / 128 = 0
    · exact fin n out hq hn (by omega) hs
    · have hp : n / 128 < 128 ^ d := by rw [Nat.pow_succ] at h; omega
      have := ih (n / 128) (out ++ [((n % 128 : Nat) : Int)]) hp (by simp; omega) (by omega) (fun x hx => by
        rcases List.mem_append.1 hx with h1 | h1
        · exact hs x h1
        · rw [List.mem_singleton] at h1; omega)
      have e3 : out ++ [((n % 128 : Nat) : Int)] ++ lows (n / 128) = out ++ lows n := by rw [lows_pos n hq]; simp
      rw [e3] at this
      refine Ev.step (fun k => ?_) this
      simp only [potsherdref3_PutNumber.l0, Option.bind_some]
      rw [if_pos (by omega), if_neg (by omega), and127 _ (by omega) (by omega), show ((n : Int) % 128) % 256 = ((n % 128 : Nat) : Int) by omega]
      rfl
theorem put_ev (b : List Int) (hb : b.length ≤ 1000) (n : Int) : Ev (fun k => potsherdref3_PutNumber.f k b n) (b ++ code (clamp n)) := by
  have hc := clamp_le n
  have := put_loop b hb 6 (clamp n) [] (by omega) (by simp) hc (fun x hx => by cases hx)
  have e : b ++ ((([] ++ lows (clamp n)).drop 1).map (· + 128)).reverse ++ [([] ++ lows (clamp n)).getD 0 0] = b ++ code (clamp n) := by
    rw [List.nil_append, List.append_assoc]
    congr 1
    unfold code
    by_cases hq : clamp n / 128 = 0
    · rw [lows_zero _ hq, hq, front_zero]; simp
    · rw [lows_pos _ hq, ← lows_front 6 (clamp n / 128) (by omega) hq]; simp
  rw [e] at this
  refine Ev.congr (fun k => ?_) this
  unfold potsherdref3_PutNumber.f
  rw [clamp_int2]
theorem putText_ev (b s : List Int) (hb : b.length ≤ 1000) (hs : s.length ≤ 100000) : Ev (fun k => potsherdref3_PutText.f k b s) (b ++ code s.length ++ s) := by
  have h := put_ev b hb (s.length : Int)
  rw [clamp_of _ (by omega)] at h
  have hl := code_len s.length (by omega)
  refine Ev.congr (fun k => by unfold potsherdref3_PutText.f; rfl) (Ev.bind h ?_)
  refine Ev.congr (fun k => by rw [if_pos (by simp; omega)]) (Ev.now _)
end Go.Proofs.Ytkncmbbkehnagaa.Pl1

set_option linter.unusedVariables false
set_option linter.unusedSimpArgs false
/-! Numbers as bytes, in plain words: what is read. -/
namespace Go.Proofs.Ytkncmbbkehnagaa.Pl2
open Go.RowKit Go.Proofs.YtkncmbbkehnagaaW.PrintWords Go.Proofs.YtkncmbbkehnagaaW.PrintLast Go.Proofs.YtkncmbbkehnagaaW.PrintMore Go.Proofs.Ytkncmbbkehnagaa.PAll Go.Proofs.Ytkncmbbkehnagaa.Pl1

def Bytes (l : List Int) : Prop := ∀ x ∈ l, 0 ≤ x ∧ x < 256
theorem Bytes.cons {c : Int} {l : List Int} (h : Bytes (c :: l)) : (0 ≤ c ∧ c < 256) ∧ Bytes l := ⟨h c (by simp), fun x hx => h x (by simp [hx])⟩
theorem Bytes.drop {l : List Int} (h : Bytes l) (n : Nat) : Bytes (l.drop n) := fun x hx => h x (List.mem_of_mem_drop hx)
theorem Bytes.take {l : List Int} (h : Bytes l) (n : Nat) : Bytes (l.take n) := fun x hx => h x (List.mem_of_mem_take hx)
theorem Bytes.append {a b : List Int} (h : Bytes a) (k : Bytes b) : Bytes (a ++ b) := fun x hx => by
  rcases List.mem_append.1 hx with h1 | h1
  · exact h x h1
  · exact k x h1

/-- m digits at most; b: it is the first one; n: what is read so far, of i bytes. -/
def scan : Nat → Bool → Int → Nat → List Int → Option (Int × Nat)
  | 0, _, _, _, _ => none
  | _ + 1, _, _, _, [] => none
  | m + 1, b, n, i, c :: l => if b = true ∧ c = 128 then none else if c ≥ 128 then scan m false (n * 128 + c % 128) (i + 1) l else some (n * 128 + c % 128, i + 1)
theorem scan_cons (m : Nat) (b : Bool) (n : Int) (i : Nat) (c : Int) (l : List Int) : scan (m + 1) b n i (c :: l) = if b = true ∧ c = 128 then none else if c ≥ 128 then scan m false (n * 128 + c % 128) (i + 1) l else some (n * 128 + c % 128, i + 1) := rfl
def rdNum (l : List Int) : Option (Int × Nat) := scan 6 true 0 0 l
/-- What the program tells, and the document. -/
def own (o : Option (Int × Nat)) (most : Int) : Int × Int := match o with | none => (0, 0) | some (n, s) => if n > most then (0, 0) else (n, (s : Int))
theorem scan_take : ∀ (m : Nat) (b : Bool) (n : Int) (i : Nat) (l : List Int), scan m b n i (l.take m) = scan m b n i l
  | 0, b, n, i, l => rfl
  | m + 1, b, n, i, [] => by simp
  | m + 1, b, n, i, c :: l => by simp only [List.take_succ_cons, scan, scan_take m false]
theorem pow_small (i : Nat) (h : i ≤ 6) : (128 : Int) ^ i ≤ 4398046511104 := by
  have : ∀ i : Fin 7, (128 : Int) ^ i.val ≤ 4398046511104 := by decide
  exact this ⟨i, by omega⟩
theorem own_loop (xs : List Int) (hx : xs.length ≤ 6) (hb : Bytes xs) (most : Int) : ∀ (m i : Nat) (n : Int) (pre rest : List Int), xs = pre ++ rest → pre.length = i → i + m = 6 → 0 ≤ n → n < 128 ^ i →
    Ev (fun k => bytes_number.l0 k most n xs (xs.length : Int) (i : Int)) (own (scan m (i == 0) n i rest) most)
  | m, i, n, pre, [], h, hi, hm, h0, h1 => by
    have hs : scan m (i == 0) n i [] = none := by cases m <;> rfl
    rw [hs]
    have : xs.length = i := by rw [h]; simp [hi]
    refine Ev.step (f := fun _ => some (0, 0)) (fun k => ?_) (Ev.now _)
    simp only [bytes_number.l0]
    rw [if_neg (by omega)]
  | 0, i, n, pre, c :: rest, h, hi, hm, h0, h1 => by
    have : xs.length = i + (rest.length + 1) := by rw [h]; simp [hi]
    omega
  | m + 1, i, n, pre, c :: rest, h, hi, hm, h0, h1 => by
    have hl : xs.length = i + (rest.length + 1) := by rw [h]; simp [hi]
    have hc : rd xs (i : Int) = c := by rw [rd_nat, h, ← hi]; simp
    have hcb := hb c (by rw [h]; simp)
    have hp := pow_small i (by omega)
    have hcw : wrap64 c = c := w64 (by omega) (by omega)
    have hmod : Int.tmod c 128 = c % 128 := Int.tmod_eq_emod_of_nonneg (by omega)
    have hv : wrap64 (wrap64 (n * 128) + Int.tmod (wrap64 c) 128) = n * 128 + c % 128 := by rw [hcw, hmod, w64 (n := n * 128) (by omega) (by omega), w64 (by omega) (by omega)]
    refine Ev.step (f := fun k => bytes_number.j1 k most n (i : Int) c xs (xs.length : Int) (i : Int) (decide (i = 0 ∧ c = 128))) (fun k => ?_) ?_
    · simp only [bytes_number.l0]
      rw [if_pos (by omega), if_pos (by omega), if_pos (by omega), hc]
      by_cases hz : i = 0
      · rw [if_pos (by omega)]
        congr 1
        by_cases hh : c = 128 <;> simp [hz, hh]
      · rw [if_neg (by omega)]
        congr 1
        simp [hz]
    · unfold scan
      by_cases hq : i = 0 ∧ c = 128
      · rw [if_pos (by simpa using hq), decide_eq_true hq]
        refine Ev.step (f := fun _ => some (0, 0)) (fun k => ?_) (Ev.now _)
        simp only [bytes_number.j1]
        rw [if_pos trivial]
      · rw [if_neg (by simpa using hq), decide_eq_false hq]
        by_cases hg : c ≥ 128
        · rw [if_pos hg]
          have ih := own_loop xs hx hb most m (i + 1) (n * 128 + c % 128) (pre ++ [c]) rest (by simp [h]) (by simp [hi]) (by omega) (by omega) (by rw [Int.pow_succ]; omega)
          have e : ((i + 1 : Nat) == 0) = false := by simp
          rw [e] at ih
          refine Ev.step (fun k => ?_) ih
          simp only [bytes_number.j1]
          rw [if_neg (by simp), if_pos hg, hv, w64 (by omega) (by omega)]
          rfl
        · rw [if_neg hg]
          refine Ev.step (f := fun _ => some (own (some (n * 128 + c % 128, i + 1)) most)) (fun k => ?_) (Ev.now _)
          simp only [bytes_number.j1]
          rw [if_neg (by simp), if_neg hg, hv, w64 (n := (i : Int) + 1) (by omega) (by omega)]
          unfold own
          by_cases hm2 : n * 128 + c % 128 > most
          · rw [if_pos hm2]; simp only [if_pos hm2]
          · rw [if_neg hm2]; simp only [if_neg hm2]; rfl
theorem own_ev (l : List Int) (hl : l.length ≤ 1000000) (hb : Bytes l) (most : Int) : Ev (fun k => bytes_number.f k l most) (own (rdNum l) most) := by
  have hmn : mn (l.length : Int) 6 = ((min l.length 6 : Nat) : Int) := by unfold mn; split <;> omega
  have ht : l.take (min l.length 6) = l.take 6 := by
    by_cases h : l.length ≤ 6
    · rw [Nat.min_eq_left h, List.take_length, List.take_of_length_le h]
    · rw [Nat.min_eq_right (by omega)]
  have := own_loop (l.take 6) (by rw [List.length_take]; omega) (hb.take 6) most 6 0 0 [] (l.take 6) rfl rfl rfl (Int.le_refl _) (by decide)
  rw [show ((0 : Nat) == 0) = true from rfl, scan_take] at this
  refine Ev.congr (fun k => ?_) this
  unfold bytes_number.f
  rw [hmn, if_pos (by omega), if_pos (by omega), Int.toNat_natCast, ht]
  rfl
/-! ### what is written is read -/
theorem scan_front : ∀ (d n : Nat), n < 128 ^ d → ∀ (m : Nat) (rest : List Int), scan (m + (front n).length) true 0 0 (front n ++ rest) = if n = 0 then scan m true 0 0 rest else scan m false n (front n).length rest
  | 0, n, h, m, rest => by
    have : n = 0 := by simpa using h
    subst this
    rw [front_zero, if_pos rfl]; rfl
  | d + 1, n, h, m, rest => by
    by_cases hz : n = 0
    · subst hz
      rw [front_zero, if_pos rfl]; rfl
    · have ih := scan_front d (n / 128) (by rw [Nat.pow_succ] at h; omega) (m + 1) ((((n % 128 : Nat) : Int) + 128) :: rest)
      rw [if_neg hz, front_pos n hz, List.append_assoc, List.singleton_append, List.length_append, List.length_singleton, show m + ((front (n / 128)).length + 1) = m + 1 + (front (n / 128)).length by omega, ih]
      by_cases hq : n / 128 = 0
      · rw [if_pos hq, hq, front_zero]
        have e1 : (0 : Int) * 128 + (((n % 128 : Nat) : Int) + 128) % 128 = (n : Int) := by omega
        rw [scan_cons, if_neg (by omega), if_pos (by omega), e1]
        rfl
      · have e1 : ((n / 128 : Nat) : Int) * 128 + (((n % 128 : Nat) : Int) + 128) % 128 = (n : Int) := by omega
        rw [if_neg hq, scan_cons, if_neg (by simp), if_pos (by omega), e1]
theorem rdNum_code (n : Nat) (h : n ≤ 1099511627776) (rest : List Int) : rdNum (code n ++ rest) = some ((n : Int), (code n).length) := by
  have hf := front_len 5 (n / 128) (by omega)
  have hs := scan_front 5 (n / 128) (by omega) (6 - (front (n / 128)).length - 1 + 1) (((n % 128 : Nat) : Int) :: rest)
  unfold rdNum code
  rw [List.append_assoc, List.singleton_append, List.length_append, List.length_singleton, show 6 = 6 - (front (n / 128)).length - 1 + 1 + (front (n / 128)).length by omega, hs]
  by_cases hq : n / 128 = 0
  · rw [if_pos hq, hq, front_zero]
    unfold scan
    rw [if_neg (by omega), if_neg (by omega)]
    congr 2
    omega
  · rw [if_neg hq]
    unfold scan
    rw [if_neg (by simp), if_neg (by omega)]
    congr 2
    omega
/-! ### what is read was so written -/
theorem scan_inv : ∀ (m q : Nat) (l : List Int) (v : Int) (s : Nat), q ≠ 0 → Bytes l → scan m false q (front q).length l = some (v, s) →
    ∃ n : Nat, v = n ∧ code n = front q ++ l.take (s - (front q).length) ∧ s = (code n).length ∧ (front q).length < s ∧ s - (front q).length ≤ l.length
  | 0, q, l, v, s, hq, hb, h => by simp [scan] at h
  | m + 1, q, [], v, s, hq, hb, h => by simp [scan] at h
  | m + 1, q, c :: l, v, s, hq, hb, h => by
    obtain ⟨⟨c0, c1⟩, hbl⟩ := hb.cons
    unfold scan at h
    rw [if_neg (by simp)] at h
    by_cases hg : c ≥ 128
    · rw [if_pos hg] at h
      have hf : front (q * 128 + (c % 128).toNat) = front q ++ [c] := by
        rw [front_pos _ (by omega), show (q * 128 + (c % 128).toNat) / 128 = q by omega]
        congr 2
        omega
      have hfl : (front (q * 128 + (c % 128).toNat)).length = (front q).length + 1 := by rw [hf]; simp
      rw [show (q : Int) * 128 + c % 128 = ((q * 128 + (c % 128).toNat : Nat) : Int) by omega, ← hfl] at h
      obtain ⟨n, e1, e2, e3, e4, e5⟩ := scan_inv m (q * 128 + (c % 128).toNat) l v s (by omega) hbl h
      rw [hfl] at e2 e4 e5
      refine ⟨n, e1, ?_, e3, by omega, by simp; omega⟩
      rw [e2, hf, show s - (front q).length = (s - ((front q).length + 1)) + 1 by omega, List.take_succ_cons]
      simp
    · rw [if_neg hg] at h
      simp only [Option.some.injEq, Prod.mk.injEq] at h
      obtain ⟨rfl, rfl⟩ := h
      refine ⟨q * 128 + c.toNat, by omega, ?_, ?_, by omega, by simp⟩
      · unfold code
        rw [show (q * 128 + c.toNat) / 128 = q by omega, show (front q).length + 1 - (front q).length = 1 by omega, List.take_succ_cons, List.take_zero]
        congr 2
        omega
      · unfold code
        rw [show (q * 128 + c.toNat) / 128 = q by omega]
        simp
theorem rdNum_inv {l : List Int} {v : Int} {s : Nat} (hb : Bytes l) (h : rdNum l = some (v, s)) : ∃ n : Nat, v = n ∧ code n = l.take s ∧ s = (code n).length ∧ s ≤ l.length ∧ 0 < s := by
  cases l with
  | nil => simp [rdNum, scan] at h
  | cons c l =>
    obtain ⟨⟨c0, c1⟩, hbl⟩ := hb.cons
    unfold rdNum scan at h
    by_cases hq : c = 128
    · rw [if_pos ⟨rfl, hq⟩] at h; cases h
    · rw [if_neg (by simpa using hq)] at h
      by_cases hg : c ≥ 128
      · rw [if_pos hg] at h
        have hf : front (c % 128).toNat = [c] := by
          rw [front_pos _ (by omega), show (c % 128).toNat / 128 = 0 by omega, front_zero]
          simp only [List.nil_append, List.cons.injEq, and_true]
          omega
        have hfl : (front (c % 128).toNat).length = 0 + 1 := by rw [hf]; rfl
        rw [show (0 : Int) * 128 + c % 128 = (((c % 128).toNat : Nat) : Int) by omega, ← hfl] at h
        obtain ⟨n, e1, e2, e3, e4, e5⟩ := scan_inv 5 (c % 128).toNat l v s (by omega) hbl h
        rw [hfl] at e2 e4 e5
        refine ⟨n, e1, ?_, e3, by simp; omega, by omega⟩
        rw [e2, hf, show s = (s - (0 + 1)) + 1 by omega, List.take_succ_cons]
        simp
      · rw [if_neg hg] at h
        simp only [Option.some.injEq, Prod.mk.injEq] at h
        obtain ⟨rfl, rfl⟩ := h
        refine ⟨c.toNat, by omega, ?_, ?_, by simp, by omega⟩
        · unfold code
          rw [show c.toNat / 128 = 0 by omega, front_zero]
          simp only [List.nil_append, List.take_succ_cons, List.take_zero, List.cons.injEq, and_true]
          omega
        · unfold code
          rw [show c.toNat / 128 = 0 by omega, front_zero]
          rfl
theorem own_size {l : List Int} (hb : Bytes l) (most : Int) : 0 ≤ (own (rdNum l) most).2 ∧ (own (rdNum l) most).2 ≤ l.length ∧ 0 ≤ (own (rdNum l) most).1 ∧ ((own (rdNum l) most).2 = 0 → (own (rdNum l) most).1 = 0) := by
  cases h : rdNum l with
  | none => simp [own]
  | some p =>
    obtain ⟨v, s⟩ := p
    obtain ⟨n, rfl, _, _, h1, h2⟩ := rdNum_inv hb h
    unfold own
    by_cases hm : (n : Int) > most
    · simp only [if_pos hm]; simp
    · simp only [if_neg hm]
      refine ⟨by omega, by omega, by omega, by omega⟩
end Go.Proofs.Ytkncmbbkehnagaa.Pl2

set_option linter.unusedVariables false
set_option linter.unusedSimpArgs false
/-! What a reader does, for both readers alike. -/
namespace Go.Proofs.Ytkncmbbkehnagaa.St
open Go.RowKit Go.Proofs.YtkncmbbkehnagaaW.PrintWords Go.Proofs.YtkncmbbkehnagaaW.PrintLast Go.Proofs.YtkncmbbkehnagaaW.PrintMore Go.Proofs.Ytkncmbbkehnagaa.PAll Go.Proofs.Ytkncmbbkehnagaa.Rdr Go.Proofs.Ytkncmbbkehnagaa.Pl1 Go.Proofs.Ytkncmbbkehnagaa.Pl2

def numStep (l : List Int) (e most : Int) : Int × List Int × Int :=
  if e = 0 then (match rdNum l with | none => (0, l, 5) | some (n, s) => if n > most then (0, l, 5) else (n, l.drop s, 0)) else (0, l, e)
def textStep (l : List Int) (e most : Int) : List Int × List Int × Int :=
  if e = 0 then (match rdNum l with | none => ([], l, 5) | some (n, s) => if n > most ∨ n > (l.length : Int) - s then ([], l, 5) else ((l.take (s + n).toNat).drop s, l.drop (s + n).toNat, 0)) else ([], l, e)
def Fine (l : List Int) : Prop := Bytes l ∧ l.length ≤ 1000000
theorem Fine.drop {l : List Int} (h : Fine l) (n : Nat) : Fine (l.drop n) := ⟨h.1.drop n, by rw [List.length_drop]; have := h.2; omega⟩
theorem numStep_fine {l : List Int} (h : Fine l) (e most : Int) : Fine (numStep l e most).2.1 := by
  unfold numStep
  split
  · split
    · exact h
    · split
      · exact h
      · exact h.drop _
  · exact h
theorem own_number (u w : World) (g : Nat) (l : List Int) (e most : Int) (hI : IsRd 138 u w g l e) (hB : Below u.heap.size u w) (hf : Fine l) :
    Calls Try.prog 65 #[.pointer (some ⟨g, 0, none⟩), .int .i64 most] w fun ev w' => ev = .returned (.int .i64 (numStep l e most).1) ∧ IsRd 138 u w' g (numStep l e most).2.1 (numStep l e most).2.2 ∧ Below u.heap.size u w' ∧ KeepBut w w' g none := by
  unfold numStep
  by_cases he : e = 0
  · subst he
    rw [if_pos rfl]
    obtain ⟨k, hk⟩ := (own_ev l hf.2 hf.1 most).rounds
    have hs := own_size hf.1 most
    cases hr : rdNum l with
    | none =>
      rw [hr] at hk hs
      exact (Rdr.number k u w g l most 0 0 hI hB hk (by omega) (by omega))
    | some p =>
      obtain ⟨n, s⟩ := p
      rw [hr] at hk hs
      obtain ⟨n', rfl, _, _, h1, h2⟩ := rdNum_inv hf.1 hr
      simp only [own] at hk hs
      by_cases hm : (n' : Int) > most
      · rw [if_pos hm] at hk
        simp only [if_pos hm]
        exact (Rdr.number k u w g l most 0 0 hI hB hk (by omega) (by omega))
      · rw [if_neg hm] at hk
        simp only [if_neg hm]
        refine (Rdr.number k u w g l most n' s hI hB hk (by omega) (by omega)).mono ?_
        rintro ev w' ⟨rfl, hI', r⟩
        rw [if_neg (by omega)] at hI'
        exact ⟨rfl, hI', r⟩
  · rw [if_neg he]
    exact Rdr.numberOff u w g l e most hI hB he
theorem own_text (u w : World) (g : Nat) (l : List Int) (e most : Int) (hI : IsRd 138 u w g l e) (hB : Below u.heap.size u w) (hf : Fine l) :
    Calls Try.prog 66 #[.pointer (some ⟨g, 0, none⟩), .int .i64 most] w fun ev w' => ∃ v : Value, ev = .returned v ∧ Kd.R (Kd.int .u8) 5 w' u.heap.size (fun k_ => w.heap.size ≤ k_) v (textStep l e most).1 ∧ IsRd 138 u w' g (textStep l e most).2.1 (textStep l e most).2.2 ∧ Below u.heap.size u w' ∧ KeepBut w w' g none := by
  have nil : ∀ {l' : List Int} {e' : Int}, Calls Try.prog 66 #[.pointer (some ⟨g, 0, none⟩), .int .i64 most] w (fun ev w' => ev = .returned (.slice none 0 0) ∧ IsRd 138 u w' g l' e' ∧ Below u.heap.size u w' ∧ KeepBut w w' g none) →
      Calls Try.prog 66 #[.pointer (some ⟨g, 0, none⟩), .int .i64 most] w (fun ev w' => ∃ v : Value, ev = .returned v ∧ Kd.R (Kd.int .u8) 5 w' u.heap.size (fun k_ => w.heap.size ≤ k_) v [] ∧ IsRd 138 u w' g l' e' ∧ Below u.heap.size u w' ∧ KeepBut w w' g none) := fun h => by
    refine h.mono ?_
    rintro ev w' ⟨rfl, r⟩
    exact ⟨_, rfl, Kd.R_nil _ _ _ _ _, r⟩
  unfold textStep
  by_cases he : e = 0
  · subst he
    rw [if_pos rfl]
    obtain ⟨k, hk⟩ := (own_ev l hf.2 hf.1 most).rounds
    cases hr : rdNum l with
    | none =>
      rw [hr] at hk
      exact nil (Rdr.textBad k u w g l most 0 0 hI hB hk (by omega) (by omega) hf.2 (.inl rfl))
    | some p =>
      obtain ⟨n, s⟩ := p
      rw [hr] at hk
      obtain ⟨n', rfl, _, _, h1, h2⟩ := rdNum_inv hf.1 hr
      simp only [own] at hk
      by_cases hm : (n' : Int) > most
      · rw [if_pos hm] at hk
        simp only [if_pos (show (n' : Int) > most ∨ (n' : Int) > (l.length : Int) - s from .inl hm)]
        exact nil (Rdr.textBad k u w g l most 0 0 hI hB hk (by omega) (by omega) hf.2 (.inl rfl))
      · rw [if_neg hm] at hk
        by_cases hm2 : (n' : Int) > (l.length : Int) - s
        · simp only [if_pos (show (n' : Int) > most ∨ (n' : Int) > (l.length : Int) - s from .inr hm2)]
          exact nil (Rdr.textBad k u w g l most n' s hI hB hk (by omega) (by omega) hf.2 (.inr hm2))
        · simp only [if_neg (show ¬ ((n' : Int) > most ∨ (n' : Int) > (l.length : Int) - s) by omega)]
          exact Rdr.text k u w g l most n' s hI hB hk (by omega) (by omega) hf.2 (by omega) (by omega)
  · rw [if_neg he]
    exact nil (Rdr.textOff u w g l e most hI hB he)
theorem own_numberE {u w : World} {g : Nat} {l : List Int} {e most v : Int} {l' : List Int} {e' : Int} (h : numStep l e most = (v, l', e')) (hI : IsRd 138 u w g l e) (hB : Below u.heap.size u w) (hf : Fine l) :
    Calls Try.prog 65 #[.pointer (some ⟨g, 0, none⟩), .int .i64 most] w fun ev w' => ev = .returned (.int .i64 v) ∧ IsRd 138 u w' g l' e' ∧ Below u.heap.size u w' ∧ KeepBut w w' g none := by
  have := own_number u w g l e most hI hB hf
  rw [h] at this
  exact this
theorem own_textE {u w : World} {g : Nat} {l : List Int} {e most : Int} {s l' : List Int} {e' : Int} (h : textStep l e most = (s, l', e')) (hI : IsRd 138 u w g l e) (hB : Below u.heap.size u w) (hf : Fine l) :
    Calls Try.prog 66 #[.pointer (some ⟨g, 0, none⟩), .int .i64 most] w fun ev w' => ∃ v : Value, ev = .returned v ∧ Kd.R (Kd.int .u8) 5 w' u.heap.size (fun k_ => w.heap.size ≤ k_) v s ∧ IsRd 138 u w' g l' e' ∧ Below u.heap.size u w' ∧ KeepBut w w' g none := by
  have := own_text u w g l e most hI hB hf
  rw [h] at this
  exact this
set_option maxHeartbeats 2000000 in
set_option maxRecDepth 100000 in
theorem leftQ (w0 w : World) (g : Nat) (l : List Int) (e : Int) (hI : IsRd 138 w0 w g l e) : Calls Try.prog 68 #[.pointer (some ⟨g, 0, none⟩)] w fun ev w' => ev = .returned (.int .i64 (l.length : Int)) ∧ w' = w := by
  obtain ⟨A, c, hb, hg, hC, hc⟩ := hI
  have h0 := IsRd.cell0 hb
  clear hb hC
  go_enter Try.func68, Try.ntmps68
  go_wp2
  go_ret
  exact ⟨rfl, rfl⟩
set_option maxHeartbeats 2000000 in
set_option maxRecDepth 100000 in
theorem errQ (w0 w : World) (g : Nat) (l : List Int) (e : Int) (hI : IsRd 138 w0 w g l e) : Calls Try.prog 67 #[.pointer (some ⟨g, 0, none⟩)] w fun ev w' => ev = .returned (.int .i64 e) ∧ w' = w := by
  obtain ⟨A, c, hb, hg, hC, hc⟩ := hI
  have h1 := IsRd.cell1 hb
  clear hb hC
  go_enter Try.func67, Try.ntmps67
  go_wp2
  go_ret
  exact ⟨rfl, rfl⟩
end Go.Proofs.Ytkncmbbkehnagaa.St

set_option linter.unusedVariables false
set_option linter.unusedSimpArgs false
/-! Sheets as plain lists: laid, may, parsed. -/
namespace Go.Proofs.Ytkncmbbkehnagaa.Sp
open Go.RowKit Go.Proofs.YtkncmbbkehnagaaW.PrintWords Go.Proofs.YtkncmbbkehnagaaW.PrintLast Go.Proofs.YtkncmbbkehnagaaW.PrintMore Go.Proofs.Ytkncmbbkehnagaa.PAll Go.Proofs.Ytkncmbbkehnagaa.Pl1 Go.Proofs.Ytkncmbbkehnagaa.Pl2 Go.Proofs.Ytkncmbbkehnagaa.St

def laidL (p q : Int) (d : List Int) : List Int := code (clamp p) ++ code (clamp q) ++ code d.length ++ d ++ [90]
def mayB (p q : Int) (d : List Int) : Bool := decide (0 ≤ p) && (decide (p ≤ 60) && (decide (1 ≤ q) && (decide (q ≤ 1099511627776) && (decide (d.length ≤ 2000) && decide ((laidL p q d).length ≤ 2000)))))
theorem mayB_iff {p q : Int} {d : List Int} : mayB p q d = true ↔ 0 ≤ p ∧ p ≤ 60 ∧ 1 ≤ q ∧ q ≤ 1099511627776 ∧ d.length ≤ 2000 ∧ (laidL p q d).length ≤ 2000 := by
  unfold mayB; simp only [Bool.and_eq_true, decide_eq_true_eq]

theorem laid_ev (p q : Int) (d : List Int) (hd : d.length ≤ 3000) : Ev (fun k => sheet_laid.f k p q d) (laidL p q d) := by
  have c1 := code_len (clamp p) (clamp_le p)
  have c2 := code_len (clamp q) (clamp_le q)
  have c3 := code_len d.length (by omega)
  refine Ev.congr (fun k => by unfold sheet_laid.f; rfl) (Ev.bind (number_ev [] (by simp) p) ?_)
  refine Ev.bind (number_ev _ (by simp; omega) q) ?_
  refine Ev.bind (text_ev _ d (by simp; omega) (by omega)) ?_
  refine Ev.congr (fun k => ?_) (Ev.now _)
  simp only [Option.bind_some, List.nil_append]
  rw [if_pos (by simp; omega)]
  rfl
theorem refLaid_ev (p q : Int) (d : List Int) (hd : d.length ≤ 3000) : Ev (fun k => potsherdref3_sheetBytes.f k p q d) (laidL p q d) := by
  have c1 := code_len (clamp p) (clamp_le p)
  have c2 := code_len (clamp q) (clamp_le q)
  have c3 := code_len d.length (by omega)
  refine Ev.congr (fun k => by unfold potsherdref3_sheetBytes.f; rfl) (Ev.bind (put_ev [] (by simp) p) ?_)
  refine Ev.bind (put_ev _ (by simp; omega) q) ?_
  refine Ev.bind (putText_ev _ d (by simp; omega) (by omega)) ?_
  refine Ev.congr (fun k => ?_) (Ev.now _)
  simp only [Option.bind_some, List.nil_append]
  rw [if_pos (by simp; omega)]
  rfl
theorem may_ev (p q : Int) (d : List Int) : Ev (fun k => sheet_May.f k p q d) (mayB p q d) := by
  unfold mayB
  by_cases h1 : 0 ≤ p
  · by_cases h2 : p ≤ 60
    · by_cases h3 : 1 ≤ q
      · by_cases h4 : q ≤ 1099511627776
        · by_cases h5 : d.length ≤ 2000
          · refine Ev.congr (fun k => by unfold sheet_May.f; rw [if_pos h1, if_pos h2, if_pos h3, if_pos h4, if_pos (by omega)]) (Ev.bind (laid_ev p q d (by omega)) ?_)
            refine Ev.congr (fun k => ?_) (Ev.now _)
            simp only [h1, h2, h3, h4, h5, decide_true, Bool.true_and, Option.some.injEq, decide_eq_decide]
            omega
          · refine Ev.congr (fun k => ?_) (Ev.now _)
            unfold sheet_May.f
            rw [if_pos h1, if_pos h2, if_pos h3, if_pos h4, if_neg (by omega)]
            simp [h5]
        · refine Ev.congr (fun k => ?_) (Ev.now _)
          unfold sheet_May.f
          rw [if_pos h1, if_pos h2, if_pos h3, if_neg h4]
          simp [h4]
      · refine Ev.congr (fun k => ?_) (Ev.now _)
        unfold sheet_May.f
        rw [if_pos h1, if_pos h2, if_neg h3]
        simp [h3]
    · refine Ev.congr (fun k => ?_) (Ev.now _)
      unfold sheet_May.f
      rw [if_pos h1, if_neg h2]
      simp [h2]
  · refine Ev.congr (fun k => ?_) (Ev.now _)
    unfold sheet_May.f
    rw [if_neg h1]
    simp [h1]
theorem refMay_ev (p q : Int) (d : List Int) : Ev (fun k => potsherdref3_MaySheet.f k p q d) (mayB p q d) := by
  unfold mayB
  by_cases h1 : 0 ≤ p
  · by_cases h2 : p ≤ 60
    · by_cases h3 : 1 ≤ q
      · by_cases h4 : q ≤ 1099511627776
        · by_cases h5 : d.length ≤ 2000
          · refine Ev.congr (fun k => by unfold potsherdref3_MaySheet.f; rw [if_pos h1, if_pos h2, if_pos h3, if_pos h4, if_pos (by omega)]) (Ev.bind (refLaid_ev p q d (by omega)) ?_)
            refine Ev.congr (fun k => ?_) (Ev.now _)
            simp only [h1, h2, h3, h4, h5, decide_true, Bool.true_and, Option.some.injEq, decide_eq_decide]
            omega
          · refine Ev.congr (fun k => ?_) (Ev.now _)
            unfold potsherdref3_MaySheet.f
            rw [if_pos h1, if_pos h2, if_pos h3, if_pos h4, if_neg (by omega)]
            simp [h5]
        · refine Ev.congr (fun k => ?_) (Ev.now _)
          unfold potsherdref3_MaySheet.f
          rw [if_pos h1, if_pos h2, if_pos h3, if_neg h4]
          simp [h4]
      · refine Ev.congr (fun k => ?_) (Ev.now _)
        unfold potsherdref3_MaySheet.f
        rw [if_pos h1, if_pos h2, if_neg h3]
        simp [h3]
    · refine Ev.congr (fun k => ?_) (Ev.now _)
      unfold potsherdref3_MaySheet.f
      rw [if_pos h1, if_neg h2]
      simp [h2]
  · refine Ev.congr (fun k => ?_) (Ev.now _)
    unfold potsherdref3_MaySheet.f
    rw [if_neg h1]
    simp [h1]
def bytesL (p q : Int) (d : List Int) : List Int × Int := if mayB p q d = true then (laidL p q d, 0) else ([], 1)
theorem refBytes_ev (p q : Int) (d : List Int) : Ev (fun k => potsherdref3_SheetBytes.f k p q d) (bytesL p q d) := by
  refine Ev.congr (fun k => by unfold potsherdref3_SheetBytes.f; rfl) (Ev.bind (refMay_ev p q d) ?_)
  unfold bytesL
  by_cases h : mayB p q d = true
  · rw [if_pos h]
    refine Ev.congr (fun k => by rw [if_pos h]) (Ev.bind (refLaid_ev p q d (by have := (mayB_iff.1 h).2.2.2.2.1; omega)) (Ev.now _))
  · rw [if_neg h]
    exact Ev.congr (fun k => by rw [if_neg h]) (Ev.now _)

/-! ### read back -/
/-- page, seq, data, what is left, the error. -/
def parse3 (b : List Int) : Int × Int × List Int × List Int × Int :=
  ((numStep b 0 60).1, (numStep (numStep b 0 60).2.1 (numStep b 0 60).2.2 1099511627776).1,
    (textStep (numStep (numStep b 0 60).2.1 (numStep b 0 60).2.2 1099511627776).2.1 (numStep (numStep b 0 60).2.1 (numStep b 0 60).2.2 1099511627776).2.2 2000))
def parseL (b : List Int) : Int × Int × List Int × Int :=
  if (parse3 b).2.2.2.2 = 0 ∧ (parse3 b).2.2.2.1 = [90] ∧ mayB (parse3 b).1 (parse3 b).2.1 (parse3 b).2.2.1 = true then ((parse3 b).1, (parse3 b).2.1, (parse3 b).2.2.1, 0) else (0, 0, [], 5)
theorem num_code (most x : Nat) (hm : most ≤ 1099511627776) (h : x ≤ most) (D : List Int) : numStep (code x ++ D) 0 most = ((x : Int), D, 0) := by
  unfold numStep
  rw [if_pos rfl, rdNum_code x (by omega) D]
  simp only
  rw [if_neg (by omega), List.drop_left]
theorem text_code (t D : List Int) (h : t.length ≤ 2000) : textStep (code t.length ++ t ++ D) 0 2000 = (t, D, 0) := by
  unfold textStep
  rw [if_pos rfl, List.append_assoc, rdNum_code t.length (by omega) (t ++ D)]
  simp only
  rw [if_neg (by rw [List.length_append, List.length_append]; omega)]
  have e : ((((code t.length).length : Nat) : Int) + ((t.length : Nat) : Int)).toNat = (code t.length).length + t.length := by omega
  rw [e, ← List.append_assoc, show (code t.length).length + t.length = (code t.length ++ t).length by rw [List.length_append], List.take_left, List.drop_left, List.drop_left]
theorem clamp_id {n : Int} (h0 : 0 ≤ n) (h1 : n ≤ 1099511627776) : ((clamp n : Nat) : Int) = n := by
  have := clamp_of n.toNat (by omega)
  rw [Int.toNat_of_nonneg h0] at this
  omega
/-- Whatever stands behind it. -/
theorem parse3_code (p q : Int) (d rest : List Int) (h1 : 0 ≤ p) (h2 : p ≤ 60) (h3 : 1 ≤ q) (h4 : q ≤ 1099511627776) (h5 : d.length ≤ 2000) : parse3 (code (clamp p) ++ code (clamp q) ++ code d.length ++ d ++ rest) = (p, q, d, rest, 0) := by
  have e1 := clamp_id h1 (by omega)
  have e2 := clamp_id (show 0 ≤ q by omega) h4
  have n1 : numStep (code (clamp p) ++ code (clamp q) ++ code d.length ++ d ++ rest) 0 60 = (p, code (clamp q) ++ (code d.length ++ d ++ rest), 0) := by
    have := num_code 60 (clamp p) (by omega) (by omega) (code (clamp q) ++ (code d.length ++ d ++ rest))
    rw [e1] at this
    rw [← this]
    simp only [List.append_assoc]
    rfl
  have n2 := num_code 1099511627776 (clamp q) (by omega) (by omega) (code d.length ++ d ++ rest)
  rw [e2] at n2
  unfold parse3
  rw [n1]
  simp only
  rw [show (1099511627776 : Int) = ((1099511627776 : Nat) : Int) from rfl, n2]
  simp only
  rw [text_code d rest h5]
theorem parse_laid {p q : Int} {d : List Int} (h : mayB p q d = true) : parseL (laidL p q d) = (p, q, d, 0) := by
  obtain ⟨h1, h2, h3, h4, h5, _⟩ := mayB_iff.1 h
  have := parse3_code p q d [90] h1 h2 h3 h4 h5
  unfold parseL laidL
  rw [this]
  simp [h]
theorem numStep_inv {b : List Int} (hb : Bytes b) {e most v : Int} {l : List Int} (h : numStep b e most = (v, l, 0)) : e = 0 ∧ ∃ n : Nat, v = n ∧ (n : Int) ≤ most ∧ b = code n ++ l := by
  unfold numStep at h
  by_cases he : e = 0
  · rw [if_pos he] at h
    refine ⟨he, ?_⟩
    cases hr : rdNum b with
    | none => rw [hr] at h; simp at h
    | some x =>
      obtain ⟨v', s⟩ := x
      rw [hr] at h
      simp only at h
      by_cases hm : v' > most
      · rw [if_pos hm] at h; simp at h
      · rw [if_neg hm] at h
        obtain ⟨n, rfl, hc, hs, _, _⟩ := rdNum_inv hb hr
        simp only [Prod.mk.injEq] at h
        obtain ⟨rfl, rfl, _⟩ := h
        exact ⟨n, rfl, by omega, by rw [hc]; exact (List.take_append_drop s b).symm⟩
  · rw [if_neg he] at h
    simp only [Prod.mk.injEq] at h
    exact absurd h.2.2 he
theorem textStep_inv {b : List Int} (hb : Bytes b) {e most : Int} {d l : List Int} (h : textStep b e most = (d, l, 0)) : e = 0 ∧ (d.length : Int) ≤ most ∧ b = code d.length ++ d ++ l := by
  unfold textStep at h
  by_cases he : e = 0
  · rw [if_pos he] at h
    refine ⟨he, ?_⟩
    cases hr : rdNum b with
    | none => rw [hr] at h; simp at h
    | some x =>
      obtain ⟨v', s⟩ := x
      rw [hr] at h
      simp only at h
      by_cases hm : v' > most ∨ v' > (b.length : Int) - s
      · rw [if_pos hm] at h; simp at h
      · rw [if_neg hm] at h
        obtain ⟨n, rfl, hc, hs, hle, _⟩ := rdNum_inv hb hr
        simp only [Prod.mk.injEq] at h
        obtain ⟨rfl, rfl, _⟩ := h
        have e1 : ((s : Int) + (n : Int)).toNat = s + n := by omega
        rw [e1]
        have hl : ((b.take (s + n)).drop s).length = n := by rw [List.length_drop, List.length_take]; omega
        rw [hl]
        refine ⟨by omega, ?_⟩
        rw [hc, List.append_assoc]
        have e2 : b.take s ++ (b.take (s + n)).drop s = b.take (s + n) := by
          have h1 := List.take_append_drop s (b.take (s + n))
          rw [List.take_take, Nat.min_eq_left (by omega)] at h1
          exact h1
        rw [← List.append_assoc, e2, List.take_append_drop]
  · rw [if_neg he] at h
    simp only [Prod.mk.injEq] at h
    exact absurd h.2.2 he
theorem numStep_bytes {b : List Int} (hb : Bytes b) {e most v e' : Int} {l : List Int} (h : numStep b e most = (v, l, e')) : Bytes l := by
  unfold numStep at h
  split at h
  · split at h
    · simp only [Prod.mk.injEq] at h; rw [← h.2.1]; exact hb
    · split at h
      · simp only [Prod.mk.injEq] at h; rw [← h.2.1]; exact hb
      · simp only [Prod.mk.injEq] at h; rw [← h.2.1]; exact hb.drop _
  · simp only [Prod.mk.injEq] at h; rw [← h.2.1]; exact hb
theorem parse3_inv {b : List Int} (hb : Bytes b) {p q : Int} {d l : List Int} (h : parse3 b = (p, q, d, l, 0)) : 0 ≤ p ∧ p ≤ 60 ∧ 0 ≤ q ∧ q ≤ 1099511627776 ∧ d.length ≤ 2000 ∧ b = code (clamp p) ++ code (clamp q) ++ code d.length ++ d ++ l := by
  unfold parse3 at h
  obtain ⟨v1, l1, e1, h1⟩ : ∃ v1 l1 e1, numStep b 0 60 = (v1, l1, e1) := ⟨_, _, _, rfl⟩
  rw [h1] at h
  simp only at h
  obtain ⟨v2, l2, e2, h2⟩ : ∃ v2 l2 e2, numStep l1 e1 1099511627776 = (v2, l2, e2) := ⟨_, _, _, rfl⟩
  rw [h2] at h
  simp only at h
  obtain ⟨v3, l3, e3, h3⟩ : ∃ v3 l3 e3, textStep l2 e2 2000 = (v3, l3, e3) := ⟨_, _, _, rfl⟩
  rw [h3] at h
  simp only [Prod.mk.injEq] at h
  obtain ⟨rfl, rfl, rfl, rfl, rfl⟩ := h
  have b1 := numStep_bytes hb h1
  have b2 := numStep_bytes b1 h2
  obtain ⟨rfl, k3, k4⟩ := textStep_inv b2 h3
  obtain ⟨rfl, n2, rfl, k5, k6⟩ := numStep_inv b1 h2
  obtain ⟨_, n1, rfl, k7, k8⟩ := numStep_inv hb h1
  rw [clamp_of n1 (by omega), clamp_of n2 (by omega)]
  refine ⟨by omega, by omega, by omega, by omega, by omega, ?_⟩
  rw [k8, k6, k4]
  simp only [List.append_assoc]
theorem parse_inv {b : List Int} (hb : Bytes b) : parseL b = (0, 0, [], 5) ∨ ∃ p q d, parseL b = (p, q, d, 0) ∧ mayB p q d = true ∧ b = laidL p q d := by
  obtain ⟨p, q, d, l, e, h⟩ : ∃ p q d l e, parse3 b = (p, q, d, l, e) := ⟨_, _, _, _, _, rfl⟩
  unfold parseL
  rw [h]
  simp only
  by_cases hc : e = 0 ∧ l = [90] ∧ mayB p q d = true
  · rw [if_pos hc]
    obtain ⟨rfl, rfl, hm⟩ := hc
    exact .inr ⟨p, q, d, rfl, hm, (parse3_inv hb h).2.2.2.2.2⟩
  · rw [if_neg hc]
    exact .inl rfl
end Go.Proofs.Ytkncmbbkehnagaa.Sp

set_option linter.unusedVariables false
set_option linter.unusedSimpArgs false
/-! sheet.Parse: what it answers. -/
namespace Go.Proofs.Ytkncmbbkehnagaa.Parse
open Go.RowKit Go.Proofs.YtkncmbbkehnagaaW.PrintWords Go.Proofs.YtkncmbbkehnagaaW.PrintLast Go.Proofs.YtkncmbbkehnagaaW.PrintMore Go.Proofs.Ytkncmbbkehnagaa.PAll Go.Proofs.Ytkncmbbkehnagaa.Rdr Go.Proofs.Ytkncmbbkehnagaa.St Go.Proofs.Ytkncmbbkehnagaa.Sp
attribute [local go_sem] max2_int min2_int max_two min_two max_three min_three max_four min_four
theorem box_after {w w2 : World} {g b t : Nat} {cs : Array Value} (h : w.heap[b]? = some (.cells cs t (0, 0))) (hk : KeepBut w w2 g none) (hne : b ≠ g) : w2.heap[b]? = some (.cells cs t (0, 0)) := hk.blk h hne (by simp)
theorem numStep_suf (b : List Int) (e m : Int) : (numStep b e m).2.1 <:+ b := by
  unfold numStep
  split
  · split
    · exact List.suffix_refl _
    · split
      · exact List.suffix_refl _
      · exact List.drop_suffix _ _
  · exact List.suffix_refl _
theorem textStep_suf (b : List Int) (e m : Int) : (textStep b e m).2.1 <:+ b := by
  unfold textStep
  split
  · split
    · exact List.suffix_refl _
    · split
      · exact List.suffix_refl _
      · exact List.drop_suffix _ _
  · exact List.suffix_refl _
theorem int_at {w : World} {k : IntKind} {A : Option Addr} {n : Nat} {xs : List Int} (h : (Kd.int k).C w A n xs) (j : Nat) (hj : j < n) : ∃ ad, A = some ad ∧ w.cell? (ad.add j) = some (.int k (xs.getD j 0)) := by
  obtain ⟨ad, c, e, _, hK, hc⟩ := Kd.C_get h 0 (j : Int) (by omega) (by omega)
  have hk : c = [.int k (xs.getD j 0)] := hK
  refine ⟨ad, e, ?_⟩
  have hz := hc 0 (.int k (xs.getD j 0)) (by rw [hk]; rfl)
  simpa [Kd.int, Kd.scalar] using hz
/-- What a walk wants of a block of three cells. -/
theorem three {w : World} {b t : Nat} {x y z : Value} (h : w.heap[b]? = some (.cells #[x, y, z] t (0, 0))) :
    w.cell? ⟨b, 0, none⟩ = some x ∧ w.cell? ⟨b, 1, none⟩ = some y ∧ w.cell? ⟨b, 2, none⟩ = some z ∧ w.frozen? ⟨b, 0, none⟩ = false ∧ w.frozen? ⟨b, 1, none⟩ = false ∧ w.frozen? ⟨b, 2, none⟩ = false :=
  ⟨(blk_cell h 0).trans rfl, (blk_cell h 1).trans rfl, (blk_cell h 2).trans rfl, blk_frozen h 0, blk_frozen h 1, blk_frozen h 2⟩
theorem three_set {w : World} {b t : Nat} {x y z : Value} (h : w.heap[b]? = some (.cells #[x, y, z] t (0, 0))) (x' y' z' : Value) :
    (((w.setCell ⟨b, 0, none⟩ x').setCell ⟨b, 1, none⟩ y').setCell ⟨b, 2, none⟩ z').heap[b]? = some (.cells #[x', y', z'] t (0, 0)) := by
  have h1 : (w.setCell ⟨b, 0, none⟩ x').heap[b]? = some (.cells #[x', y, z] t (0, 0)) := by simpa using blk_set h 0 x'
  have h2 : ((w.setCell ⟨b, 0, none⟩ x').setCell ⟨b, 1, none⟩ y').heap[b]? = some (.cells #[x', y', z] t (0, 0)) := by simpa using blk_set h1 1 y'
  simpa using blk_set h2 2 z'
set_option maxHeartbeats 4000000 in
set_option maxRecDepth 100000 in
theorem parse_walk (A0 : Option Addr) (c0 : Nat) (b : List Int) (w : World) (hr0 : Kd.C (Kd.int .u8) w A0 b.length b) (hc0 : b.length ≤ c0) (hf : Fine b) :
    Calls Try.prog 55 #[.slice A0 b.length c0] w fun e w' => ∃ v2_ : Value, e = .returned (.tuple #[.agg #[.int .i64 (parseL b).1, .int .i64 (parseL b).2.1, v2_], .int .i64 (parseL b).2.2.2]) ∧ Kd.R (Kd.int .u8) 5 w' w.heap.size (fun _ => True) v2_ (parseL b).2.2.1 ∧ Below w.heap.size w w' := by
  obtain ⟨v1, l1, e1, h1⟩ : ∃ v1 l1 e1, numStep b 0 60 = (v1, l1, e1) := ⟨_, _, _, rfl⟩
  obtain ⟨v2, l2, e2, h2⟩ : ∃ v2 l2 e2, numStep l1 e1 1099511627776 = (v2, l2, e2) := ⟨_, _, _, rfl⟩
  obtain ⟨v3, l3, e3, h3⟩ : ∃ v3 l3 e3, textStep l2 e2 2000 = (v3, l3, e3) := ⟨_, _, _, rfl⟩
  have hf1 : Fine l1 := by have := numStep_fine hf 0 60; rw [h1] at this; exact this
  have hf2 : Fine l2 := by have := numStep_fine hf1 e1 1099511627776; rw [h2] at this; exact this
  have hP : parseL b = if e3 = 0 ∧ l3 = [90] ∧ mayB v1 v2 v3 = true then (v1, v2, v3, 0) else (0, 0, [], 5) := by
    unfold parseL parse3; rw [h1]; simp only; rw [h2]; simp only; rw [h3]
  have HP := Aside0.mk hP
  have H1 := Aside0.mk h1
  have H2 := Aside0.mk h2
  have H3 := Aside0.mk h3
  have HF1 := Aside0.mk hf1
  have HF2 := Aside0.mk hf2
  clear hP h1 h2 h3 hf1 hf2
  have HR0 := Aside0.mk hr0
  have HC0 := Aside0.mk hc0
  have HF := Aside0.mk hf
  clear hr0 hc0 hf
  rw [HP.out]
  obtain ⟨R, hR⟩ : ∃ R, (if e3 = 0 ∧ l3 = [90] ∧ mayB v1 v2 v3 = true then (v1, v2, v3, 0) else ((0 : Int), (0 : Int), ([] : List Int), (5 : Int))) = R := ⟨_, rfl⟩
  have HRe := Aside0.mk hR
  rw [hR]
  clear hR
  go_enter Try.func55, Try.ntmps55
  go_wp2_with fail
  obtain ⟨sb, hsb⟩ : ∃ sb, w.heap.size = sb := ⟨_, rfl⟩
  obtain ⟨ws, hws⟩ : ∃ ws, w.alloc (.cells #[.int .i64 0, .int .i64 0, .slice none 0 0] 28) = ws := ⟨_, rfl⟩
  have HBX : Aside0 (ws.heap[sb]? = some (.cells #[.int .i64 0, .int .i64 0, .slice none 0 0] 28 (0, 0))) := ⟨by rw [← hsb, ← hws]; simpa using heap_alloc_new w _⟩
  have HSB := Aside0.mk hsb
  have HBs : Aside0 (Below w.heap.size w ws) := ⟨by rw [← hws]; exact below_alloc (Below.refl _ _) _⟩
  have HRs : Aside0 (Kd.C (Kd.int .u8) ws A0 b.length b) := ⟨by rw [← hws]; exact Kd.C_alloc HR0.out _⟩
  rw [hsb, hws]
  clear hsb hws
  refine (newReader ws A0 c0 b HRs.out HC0.out HF.out.2).mono ?_
  rintro ev w1 ⟨g, u, rfl, hI, hb, hB⟩
  have HI1 := Aside0.mk hI
  have HB1 := Aside0.mk hB
  have HU := Aside0.mk hb
  have HX1 := Aside0.mk (((below_step hb hB).block sb (blk_lt HBX.out)).trans HBX.out)
  have HSBG := Aside0.mk (show sb ≠ g by have := hI.ge; have := hb.size; have := blk_lt HBX.out; omega)
  clear hI hb hB
  go_wp2_with fail
  refine (own_numberE H1.out HI1.out HB1.out HF.out).mono ?_
  rintro ev w2 ⟨rfl, hI, hB, hK⟩
  have HX2 := Aside0.mk (box_after HX1.out hK HSBG.out)
  have HI2 := Aside0.mk hI
  have HB2 := Aside0.mk hB
  clear hI hB hK HI1 HB1 HX1
  go_wp2_with fail
  refine (own_numberE H2.out HI2.out HB2.out HF1.out).mono ?_
  rintro ev w3 ⟨rfl, hI, hB, hK⟩
  have HX3 := Aside0.mk (box_after HX2.out hK HSBG.out)
  have HI3 := Aside0.mk hI
  have HB3 := Aside0.mk hB
  clear hI hB hK HI2 HB2 HX2
  go_wp2_with fail
  obtain ⟨tb, htb⟩ : ∃ tb, w3.heap.size = tb := ⟨_, rfl⟩
  have hge : g ≠ tb := by have := HI3.out.lt; omega
  have hsb : sb ≠ tb := by have := blk_lt HX3.out; omega
  have HXt : Aside0 ((w3.alloc (.cells #[.int .i64 v1, .int .i64 v2, .slice none 0 0] 28)).heap[tb]? = some (.cells #[.int .i64 v1, .int .i64 v2, .slice none 0 0] 28 (0, 0))) := ⟨by rw [← htb]; simpa using heap_alloc_new w3 _⟩
  have HI3a : Aside0 (IsRd 138 u (w3.alloc (.cells #[.int .i64 v1, .int .i64 v2, .slice none 0 0] 28)) g l2 e2) := ⟨HI3.out.below (below_alloc (Below.refl _ _) _)⟩
  have HB3a : Aside0 (Below u.heap.size u (w3.alloc (.cells #[.int .i64 v1, .int .i64 v2, .slice none 0 0] 28))) := ⟨below_weaken HB3.out HB3.out.size (below_alloc (Below.refl _ _) _)⟩
  have HX3a : Aside0 ((w3.alloc (.cells #[.int .i64 v1, .int .i64 v2, .slice none 0 0] 28)).heap[sb]? = some (.cells #[.int .i64 0, .int .i64 0, .slice none 0 0] 28 (0, 0))) := ⟨((below_alloc (Below.refl _ _) _).block sb (blk_lt HX3.out)).trans HX3.out⟩
  have HTU := Aside0.mk (show u.heap.size ≤ tb by rw [← htb]; exact HB3.out.size)
  have HGE := Aside0.mk hge
  have HSBT := Aside0.mk hsb
  clear hge hsb HI3 HB3 HX3
  rw [htb]
  obtain ⟨wt, hwt⟩ : ∃ wt, w3.alloc (.cells #[.int .i64 v1, .int .i64 v2, .slice none 0 0] 28) = wt := ⟨_, rfl⟩
  rw [hwt] at HXt HI3a HB3a HX3a ⊢
  have HXs3 := HX3a
  clear hwt htb
  refine (own_textE H3.out HI3a.out HB3a.out HF2.out).mono ?_
  rintro ev w4 ⟨tv, rfl, hR, hI, hB, hK⟩
  obtain ⟨A4, c4, rfl, hz4, hC4⟩ := Kd.R_reads hR
  have hx4 := box_after HXt.out hK HGE.out.symm
  have hs4 := box_after HX3a.out hK HSBG.out
  have hfz := blk_frozen hx4 2
  have hcz : w4.cell? ⟨tb, 2, none⟩ = some (.slice none 0 0) := (blk_cell hx4 2).trans rfl
  obtain ⟨w5, hw5⟩ : ∃ w5, w4.setCell ⟨tb, 2, none⟩ (.slice A4 v3.length c4) = w5 := ⟨_, rfl⟩
  have HW5 := Aside0.mk hw5
  have HXt5 : Aside0 (w5.heap[tb]? = some (.cells #[.int .i64 v1, .int .i64 v2, .slice A4 v3.length c4] 28 (0, 0))) := ⟨by rw [← hw5]; simpa using blk_set hx4 2 (.slice A4 v3.length c4)⟩
  have HXs5 : Aside0 (w5.heap[sb]? = some (.cells #[.int .i64 0, .int .i64 0, .slice none 0 0] 28 (0, 0))) := ⟨by rw [← hw5]; exact (Below.heap_setCell w4 _ _ sb HSBT.out).trans hs4⟩
  have HI5 : Aside0 (IsRd 138 u w5 g l3 e3) := ⟨by rw [← hw5]; exact hI.keep (Below.heap_setCell w4 _ _ g HGE.out)⟩
  have HB5 : Aside0 (Below u.heap.size u w5) := ⟨by rw [← hw5]; exact hB.setCell HTU.out _⟩
  have HR5 : Aside0 (Kd.R (Kd.int .u8) 5 w5 u.heap.size (fun k_ => wt.heap.size ≤ k_) (.slice A4 v3.length c4) v3) := ⟨by rw [← hw5]; exact Kd.R_far (p := ⟨tb, 2, none⟩) hR (fun k hk => by have := blk_lt HXt.out; have h2 : wt.heap.size ≤ k := hk; show k ≠ tb; omega) _⟩
  have HZ4 := Aside0.mk hz4
  clear hw5 hx4 hs4 hI hB hK hR hz4 hC4 HI3a HB3a HX3a
  have hs3 : l3 <:+ b := by
    have s1 := numStep_suf b 0 60
    have s2 := numStep_suf l1 e1 1099511627776
    have s3 := textStep_suf l2 e2 2000
    rw [H1.out] at s1
    rw [H2.out] at s2
    rw [H3.out] at s3
    exact s3.trans (s2.trans s1)
  have HS3 := Aside0.mk hs3
  have HRb5 := Aside0.mk (Kd.C_below HRs.out (below_step HU.out HB5.out))
  have HSW := Aside0.mk (show w.heap.size ≤ sb by rw [HSB.out]; exact Nat.le_refl _)
  have HWA := Aside0.mk (below_step (below_step HBs.out HU.out) HB5.out)
  obtain ⟨p0, p1, p2, p3, p4, p5⟩ := three HXs5.out
  obtain ⟨q0, q1, q2, q3, q4, q5⟩ := three HXt5.out
  clear hs3
  by_cases k0 : e3 = 0
  · subst k0
    by_cases k1 : l3.length = 1
    · obtain ⟨z, rfl⟩ := List.length_eq_one_iff.1 k1
      have hlen : 0 < b.length := by obtain ⟨pre, hp⟩ := HS3.out; rw [← hp]; simp
      obtain ⟨ad, rfl, hx⟩ := int_at HRb5.out (b.length - 1) (by omega)
      have hz : b.getD (b.length - 1) 0 = z := by
        obtain ⟨pre, hp⟩ := HS3.out
        rw [← hp]; simp
      rw [hz] at hx
      have hw : IntKind.i64.wrap ((b.length : Int) - 1) = ((b.length - 1 : Nat) : Int) := by have := HF.out.2; exact (IntWalk.i64_in _ (by omega)).trans (by omega)
      have hw' : wrap64 ((b.length : Int) - 1) = ((b.length - 1 : Nat) : Int) := by have := HF.out.2; unfold wrap64; omega
      have hwl : ((b.length - 1 : Nat) : Int) < (b.length : Int) := by omega
      have hwl2 : (b.length - 1 : Nat) < b.length := by omega
      clear hz
      by_cases k2 : z = 90
      · subst k2
        clear k1
        obtain ⟨kk, hkk⟩ := (may_ev v1 v2 v3).rounds
        have HKK := Aside0.mk hkk
        obtain ⟨A4', c4', e4, -, hC5⟩ := Kd.R_reads HR5.out
        cases e4
        have HC5 := Aside0.mk hC5
        clear hkk hC5
        by_cases k4 : mayB v1 v2 v3 = true
        · have hR0 : R = (v1, v2, v3, 0) := by rw [← HRe.out, if_pos ⟨rfl, rfl, k4⟩]
          subst hR0
          rw [k4] at HKK
          clear k4
          go_wp2_with (first | (go_at_call 67; rw [HW5.out]; refine (errQ u _ g [90] 0 HI5.out).mono ?_; rintro ev w6 ⟨rfl, h6⟩; cases h6) | (go_at_call 68; refine (leftQ u _ g [90] 0 HI5.out).mono ?_; rintro ev w6 ⟨rfl, h6⟩; cases h6) | (go_at_call 69; refine (sheet_May.calls kk v1 v2 A4 c4 v3 true _ HC5.out HZ4.out HKK.out).mono ?_; rintro ev w6 ⟨rfl, hb⟩; have HB6 := Aside0.mk hb; have HXs6 := Aside0.mk ((hb.block sb (blk_lt HXs5.out)).trans HXs5.out); have HXt6 := Aside0.mk ((hb.block tb (blk_lt HXt5.out)).trans HXt5.out); clear hb p0 p1 p2 p3 p4 p5 q0 q1 q2 q3 q4 q5; obtain ⟨p0, p1, p2, p3, p4, p5⟩ := three HXs6.out; obtain ⟨q0, q1, q2, q3, q4, q5⟩ := three HXt6.out))
          refine bodyPost_ret (results_ct rfl _ _ sb 28 #[.int .i64 v1, .int .i64 v2, .slice A4 v3.length c4] (0, 0) _ rfl (three_set HXs6.out _ _ _) Try.underlying28 rfl (by kernel_rfl)) rfl ?_
          have hlt : ∀ k, wt.heap.size ≤ k → k ≠ sb := fun k hk => by have := blk_lt HXs3.out; omega
          refine ⟨_, rfl, Kd.R_mono (Kd.R_lower (Kd.R_far (p := ⟨sb, 2, none⟩) (Kd.R_far (p := ⟨sb, 1, none⟩) (Kd.R_far (p := ⟨sb, 0, none⟩) (Kd.R_below HR5.out HB6.out) hlt _) hlt _) hlt _) (below_step HBs.out HU.out).size) (fun _ _ => trivial), (((below_step HWA.out HB6.out).setCell HSW.out _).setCell HSW.out _).setCell HSW.out _⟩
        · have hR0 : R = (0, 0, [], 5) := by rw [← HRe.out, if_neg]; rintro ⟨-, -, h⟩; exact k4 h
          subst hR0
          replace k4 := Bool.eq_false_iff.mpr k4
          rw [k4] at HKK
          clear k4
          go_wp2_with (first | (go_at_call 67; rw [HW5.out]; refine (errQ u _ g [90] 0 HI5.out).mono ?_; rintro ev w6 ⟨rfl, h6⟩; cases h6) | (go_at_call 68; refine (leftQ u _ g [90] 0 HI5.out).mono ?_; rintro ev w6 ⟨rfl, h6⟩; cases h6) | (go_at_call 69; refine (sheet_May.calls kk v1 v2 A4 c4 v3 false _ HC5.out HZ4.out HKK.out).mono ?_; rintro ev w6 ⟨rfl, hb⟩; have HB6 := Aside0.mk hb; have HXs6 := Aside0.mk ((hb.block sb (blk_lt HXs5.out)).trans HXs5.out); clear hb p0 p1 p2 p3 p4 p5 q0 q1 q2 q3 q4 q5; obtain ⟨p0, p1, p2, p3, p4, p5⟩ := three HXs6.out))
          refine bodyPost_ret (results_ct rfl _ _ sb 28 #[.int .i64 0, .int .i64 0, .slice none 0 0] (0, 0) _ rfl (three_set HXs6.out _ _ _) Try.underlying28 rfl (by kernel_rfl)) rfl ?_
          exact ⟨_, rfl, Kd.R_nil _ _ _ _ _, (((below_step HWA.out HB6.out).setCell HSW.out _).setCell HSW.out _).setCell HSW.out _⟩
      · have k3 : (z != 90) = true := by simpa using k2
        have hR0 : R = (0, 0, [], 5) := by rw [← HRe.out, if_neg]; rintro ⟨-, h, -⟩; exact k2 (List.singleton_inj.1 h)
        subst hR0
        clear k2 k1
        go_wp2_with (first | (go_at_call 67; rw [HW5.out]; refine (errQ u _ g [z] 0 HI5.out).mono ?_; rintro ev w6 ⟨rfl, h6⟩; cases h6) | (go_at_call 68; refine (leftQ u _ g [z] 0 HI5.out).mono ?_; rintro ev w6 ⟨rfl, h6⟩; cases h6))
        refine bodyPost_ret (results_ct rfl _ _ sb 28 #[.int .i64 0, .int .i64 0, .slice none 0 0] (0, 0) _ rfl (three_set HXs5.out _ _ _) Try.underlying28 rfl (by kernel_rfl)) rfl ?_
        exact ⟨_, rfl, Kd.R_nil _ _ _ _ _, ((HWA.out.setCell HSW.out _).setCell HSW.out _).setCell HSW.out _⟩
    · have k2 : ((l3.length : Int) != 1) = true := by simpa using (show ¬ (l3.length : Int) = 1 by omega)
      have hR0 : R = (0, 0, [], 5) := by rw [← HRe.out, if_neg]; rintro ⟨-, h, -⟩; rw [h] at k1; exact k1 rfl
      subst hR0
      clear k1
      go_wp2_with (first | (go_at_call 67; rw [HW5.out]; refine (errQ u _ g l3 0 HI5.out).mono ?_; rintro ev w6 ⟨rfl, h6⟩; cases h6) | (go_at_call 68; refine (leftQ u _ g l3 0 HI5.out).mono ?_; rintro ev w6 ⟨rfl, h6⟩; cases h6))
      refine bodyPost_ret (results_ct rfl _ _ sb 28 #[.int .i64 0, .int .i64 0, .slice none 0 0] (0, 0) _ rfl (three_set HXs5.out _ _ _) Try.underlying28 rfl (by kernel_rfl)) rfl ?_
      exact ⟨_, rfl, Kd.R_nil _ _ _ _ _, ((HWA.out.setCell HSW.out _).setCell HSW.out _).setCell HSW.out _⟩
  · have k1 : (e3 != 0) = true := by simpa using k0
    have hR0 : R = (0, 0, [], 5) := by rw [← HRe.out, if_neg]; rintro ⟨h, -⟩; exact k0 h
    subst hR0
    clear k0
    go_wp2_with (first | (go_at_call 67; rw [HW5.out]; refine (errQ u _ g l3 e3 HI5.out).mono ?_; rintro ev w6 ⟨rfl, h6⟩; cases h6))
    refine bodyPost_ret (results_ct rfl _ _ sb 28 #[.int .i64 0, .int .i64 0, .slice none 0 0] (0, 0) _ rfl (three_set HXs5.out _ _ _) Try.underlying28 rfl (by kernel_rfl)) rfl ?_
    exact ⟨_, rfl, Kd.R_nil _ _ _ _ _, ((HWA.out.setCell HSW.out _).setCell HSW.out _).setCell HSW.out _⟩
end Go.Proofs.Ytkncmbbkehnagaa.Parse
namespace Go.Proofs.Ytkncmbbkehnagaa.PAll
open Go.RowKit Go.Proofs.YtkncmbbkehnagaaW.PrintWords Go.Proofs.YtkncmbbkehnagaaW.PrintLast Go.Proofs.YtkncmbbkehnagaaW.PrintMore
def sheet_Parse.f (l0 : List Int) : Option (Int × Int × List Int × Int) := if (∀ x ∈ l0, 0 ≤ x ∧ x < 256) ∧ l0.length ≤ 1000000 then some (Sp.parseL l0) else none
theorem sheet_Parse.calls (A0 : Option Addr) (c0 : Nat) (l0 : List Int) (r1 : Int) (r2 : Int) (r3 : List Int) (r4 : Int) (w : World) (hr0 : Kd.C (Kd.int .u8) w A0 l0.length l0) (hc0 : l0.length ≤ c0) (h : sheet_Parse.f l0 = some (r1, r2, r3, r4)) :
    Calls Try.prog 55 #[.slice A0 l0.length c0] w fun e w' => ∃ v2_ : Value, e = .returned (.tuple #[.agg #[.int .i64 r1, .int .i64 r2, v2_], .int .i64 r4]) ∧ Kd.R (Kd.int .u8) 5 w' w.heap.size (fun _ => True) v2_ r3 ∧ Below w.heap.size w w' := by
  unfold sheet_Parse.f at h
  by_cases hf : (∀ x ∈ l0, 0 ≤ x ∧ x < 256) ∧ l0.length ≤ 1000000
  · rw [if_pos hf] at h
    have := Parse.parse_walk A0 c0 l0 w hr0 hc0 hf
    rw [Option.some.inj h] at this
    exact this
  · rw [if_neg hf] at h
    cases h
end Go.Proofs.Ytkncmbbkehnagaa.PAll

set_option linter.unusedVariables false
set_option linter.unusedSimpArgs false
/-! Small plain lemmas: bytes, remainders, strings of bytes. -/
namespace Go.Proofs.Ytkncmbbkehnagaa.Bd
open Go.RowKit Go.Proofs.YtkncmbbkehnagaaW.PrintWords Go.Proofs.Ytkncmbbkehnagaa.Pl1 Go.Proofs.Ytkncmbbkehnagaa.Pl2 Go.Proofs.Ytkncmbbkehnagaa.Sp

theorem front_bytes : ∀ (d n : Nat), n < 128 ^ d → Bytes (front n)
  | 0, n, h => by
    have : n = 0 := by simpa using h
    subst this
    rw [front_zero]
    exact fun x hx => by cases hx
  | d + 1, n, h => by
    by_cases hz : n = 0
    · subst hz; rw [front_zero]; exact fun x hx => by cases hx
    · rw [front_pos n hz]
      exact (front_bytes d (n / 128) (by rw [Nat.pow_succ] at h; omega)).append (fun x hx => by rw [List.mem_singleton] at hx; omega)
theorem code_bytes (n : Nat) (h : n ≤ 1099511627776) : Bytes (code n) :=
  (front_bytes 6 (n / 128) (by omega)).append (fun x hx => by rw [List.mem_singleton] at hx; omega)
theorem bytes_of {l : List Int} (h : ∀ x ∈ l, (Lit.int .u8 x).wf = true) : Bytes l := fun x hx => by
  have h1 := h x hx
  have h2 : IntKind.u8.min ≤ x ∧ x ≤ IntKind.u8.max := by simpa [Lit.wf] using h1
  have h3 : IntKind.u8.min = 0 := by decide
  have h4 : IntKind.u8.max = 255 := by decide
  omega
theorem small (a : Int) (B : Int) (hB : 0 < B) (hB2 : B ≤ 2000000000000) : ∃ n : Nat, wrap64 (Int.tmod (IntKind.u64.wrap a) B) = (n : Int) ∧ (n : Int) < B := by
  have h0 : 0 ≤ IntKind.u64.wrap a := by
    rw [IntKind.wrap_u64]
    exact Int.emod_nonneg _ (by decide)
  have t0 : 0 ≤ Int.tmod (IntKind.u64.wrap a) B := Int.tmod_nonneg _ h0
  have t1 : Int.tmod (IntKind.u64.wrap a) B < B := Int.tmod_lt_of_pos _ hB
  exact ⟨(Int.tmod (IntKind.u64.wrap a) B).toNat, by rw [w64 (by omega) (by omega)]; omega, by omega⟩
theorem laid_bytes {p q : Int} {d : List Int} (hd : Bytes d) (hl : d.length ≤ 1099511627776) : Bytes (laidL p q d) := by
  unfold laidL
  exact (((((code_bytes _ (clamp_le p)).append (code_bytes _ (clamp_le q))).append (code_bytes _ hl)).append hd).append (fun x hx => by rw [List.mem_singleton] at hx; omega))
end Go.Proofs.Ytkncmbbkehnagaa.Bd

/-  Began as a tool's text over an altered copy of the translation (NOTES.md); below it my own lemmas on the slices that the laws make. -/
namespace Go.Proofs.Ytkncmbbkehnagaa.PAll
open Go.RowKit Go.Proofs.YtkncmbbkehnagaaW.PrintWords Go.Proofs.YtkncmbbkehnagaaW.PrintLast Go.Proofs.YtkncmbbkehnagaaW.PrintMore
attribute [local go_sem] max2_int min2_int max_two min_two max_three min_three max_four min_four   -- for this text's walks alone
set_option linter.unusedVariables false
set_option linter.unusedSimpArgs false

/-! #### struct type 28 -/
structure S28 where
  f0 : Int
  f1 : Int
  f2 : (List Int)
def z28 : S28 := ⟨(0 : Int), (0 : Int), ([] : List Int)⟩
def k28 : Kd S28 := Kd.iso (Kd.pair (Kd.int .i64) (Kd.pair (Kd.int .i64) (Kd.slice 5 (Kd.int .u8)))) (fun x : S28 => (x.f0, x.f1, x.f2))
theorem k28_open {w : World} {x : S28} {cs : List Value} (h : k28.K w x cs) : ∃ A2 c2, cs = [.int .i64 x.f0, .int .i64 x.f1, .slice A2 x.f2.length c2] ∧ x.f2.length ≤ c2 ∧ (Kd.int .u8).C w A2 x.f2.length x.f2 := by
  obtain ⟨_, _, rfl, rfl, ⟨_, _, rfl, rfl, ⟨A2, c2, rfl, l2, g2⟩⟩⟩ := h
  exact ⟨A2, c2, rfl, l2, g2⟩
theorem k28_mkM (w : World) (base : Nat) (ok : Nat → Prop) (x : S28) {v2 : Value} (g2 : (Kd.int .u8).R 5 w base ok v2 x.f2) : k28.M w base ok x [.int .i64 x.f0, .int .i64 x.f1, v2] := ⟨[.int .i64 x.f0], [.int .i64 x.f1, v2], rfl, rfl, ⟨[.int .i64 x.f1], [v2], rfl, rfl, ⟨v2, rfl, g2⟩⟩⟩
def rd_T28 (xs : List S28) (i : Int) : S28 := xs.getD i.toNat z28
theorem at_T28 {w : World} {A : Option Addr} {n : Nat} {xs : List S28} (h : Kd.C k28 w A n xs) (i : Int) (h0 : 0 ≤ i) (h1 : i < n) : ∃ ad A2 c2, A = some ad ∧ w.cell? (ad.add (i.toNat * 3)) = some (.int .i64 (rd_T28 xs i).f0) ∧ w.cell? ⟨(ad.add (i.toNat * 3)).block, (ad.add (i.toNat * 3)).off + 1, none⟩ = some (.int .i64 (rd_T28 xs i).f1) ∧ w.cell? ⟨(ad.add (i.toNat * 3)).block, (ad.add (i.toNat * 3)).off + 2, none⟩ = some (.slice A2 (rd_T28 xs i).f2.length c2) ∧ (rd_T28 xs i).f2.length ≤ c2 ∧ (Kd.int .u8).C w A2 (rd_T28 xs i).f2.length (rd_T28 xs i).f2 := by
  obtain ⟨ad, c, e, _, hK, hc0⟩ := Kd.C_get h z28 i h0 h1
  have hc : ∀ j u, c[j]? = some u → w.cell? (ad.add (i.toNat * 3 + j)) = some u := hc0
  obtain ⟨A2, c2, rfl, l2, g2⟩ := k28_open hK
  exact ⟨ad, A2, c2, e, hc 0 _ rfl, by rw [← add_field _ _ 1 (by omega)]; exact hc 1 _ rfl, by rw [← add_field _ _ 2 (by omega)]; exact hc 2 _ rfl, l2, g2⟩

end Go.Proofs.Ytkncmbbkehnagaa.PAll
namespace Go.Proofs.Ytkncmbbkehnagaa.Lt
open Go.RowKit Go.Proofs.YtkncmbbkehnagaaW.PrintWords Go.Proofs.YtkncmbbkehnagaaW.PrintLast Go.Proofs.YtkncmbbkehnagaaW.PrintMore Go.Proofs.Ytkncmbbkehnagaa.PAll
end Go.Proofs.Ytkncmbbkehnagaa.Lt

