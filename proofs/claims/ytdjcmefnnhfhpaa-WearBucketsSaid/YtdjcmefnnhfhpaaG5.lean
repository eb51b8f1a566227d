/-  Began as a tool's text over an altered copy of the translation (NOTES.md); wear.looked and awake are proved by hand. -/
import Derived.Test.YtdjcmefnnhfhpaaG0
import Derived.Test.YtdjcmefnnhfhpaaG1
import Derived.Test.YtdjcmefnnhfhpaaG2b
namespace Go.Proofs.Ytdjcmefnnhfhpaa.PAll
open Go.RowKit Go.Proofs.YtdjcmefnnhfhpaaW.PrintWords Go.Proofs.YtdjcmefnnhfhpaaW.PrintLast Go.Proofs.YtdjcmefnnhfhpaaW.PrintMore
attribute [local go_sem] max2_int min2_int max_two min_two max_three min_three max_four min_four   -- for this text's walks alone
set_option linter.unusedVariables false
set_option linter.unusedSimpArgs false

/-! ### potsherdlaw7_WearOne: function 5 -/
mutual
def potsherdlaw7_WearOne.j0 : Nat → List Int → List Bool → Int → Bool → Option (Bool)
  | 0, _, _, _, _ => none
  | k + 1, x0, x1, x2, x29 => if x29 = true then ((potsherdlaw7_awake.f k).bind fun t259 => (some t259)) else (if 0 ≤ (x0.length : Int) then (if ((x0.length : Int) : Int).toNat ≤ 35184372088832 then (potsherdlaw7_WearOne.l0 k x1 x2 (List.replicate ((x0.length : Int) : Int).toNat 0) x0 (x0.length : Int) 0) else (none)) else (none))
def potsherdlaw7_WearOne.l0 : Nat → List Bool → Int → List Int → List Int → Int → Int → Option (Bool)
  | 0, _, _, _, _, _, _ => none
  | k + 1, x1, x2, x7, x34, x35, x36 => if x36 < x35 then (if 0 ≤ x36 then (if x36 < (x34.length : Int) then (if x36 < (x7.length : Int) then (potsherdlaw7_WearOne.l0 k x1 x2 (x7.set (x36 : Int).toNat (wrap64 (Int.tmod (IntKind.u64.wrap (rd x34 x36)) 1000))) x34 x35 (wrap64 (x36 + 1))) else (none)) else (none)) else (none)) else ((wear_Apart.f k x7 x1).bind fun t265 => (if (IntKind.u64.wrap ((x7.length : Int))) = 0 then (none) else (if 0 ≤ (wrap64 (Int.tmod (IntKind.u64.wrap (x2)) (IntKind.u64.wrap ((x7.length : Int))))) then (if (wrap64 (Int.tmod (IntKind.u64.wrap (x2)) (IntKind.u64.wrap ((x7.length : Int))))) < (x7.length : Int) then ((some (x7.set ((wrap64 (Int.tmod (IntKind.u64.wrap (x2)) (IntKind.u64.wrap ((x7.length : Int))))) : Int).toNat (wrap64 ((rd x7 (wrap64 (Int.tmod (IntKind.u64.wrap (x2)) (IntKind.u64.wrap ((x7.length : Int)))))) + 1)) : List Int)).bind fun y267 => ((wear_Apart.f k y267 x1).bind fun t268 => (if t268 > (wrap64 (t265 + 1)) then (potsherdlaw7_WearOne.j2 k x1 y267 true) else (potsherdlaw7_WearOne.j2 k x1 y267 (decide (t268 < (wrap64 (t265 - 1)))))))) else (none)) else (none))))
def potsherdlaw7_WearOne.j2 : Nat → List Bool → List Int → Bool → Option (Bool)
  | 0, _, _, _ => none
  | k + 1, x1, x7, x77 => if x77 = true then (some false) else ((wear_Buckets.f k x7 x1).bind fun t269 => (potsherdlaw7_WearOne.l1 k x1 x7 0 t269 (t269.length : Int) 0))
def potsherdlaw7_WearOne.l1 : Nat → List Bool → List Int → Int → List Int → Int → Int → Option (Bool)
  | 0, _, _, _, _, _, _ => none
  | k + 1, x1, x7, x12, x80, x81, x82 => if x82 < x81 then (if 0 ≤ x82 then (if x82 < (x80.length : Int) then (potsherdlaw7_WearOne.l1 k x1 x7 (wrap64 (x12 + (rd x80 x82))) x80 x81 (wrap64 (x82 + 1))) else (none)) else (none)) else (potsherdlaw7_WearOne.l2 k x1 x12 0 (mn (x7.length : Int) (x1.length : Int)) 0)
def potsherdlaw7_WearOne.l2 : Nat → List Bool → Int → Int → Int → Int → Option (Bool)
  | 0, _, _, _, _, _ => none
  | k + 1, x1, x12, x15, x94, x95 => if x95 < x94 then (if 0 ≤ x95 then (if x95 < (x1.length : Int) then (if rdOf false x1 x95 = true then (potsherdlaw7_WearOne.l2 k x1 x12 (wrap64 (x15 + 1)) x94 (wrap64 (x95 + 1))) else (potsherdlaw7_WearOne.l2 k x1 x12 x15 x94 (wrap64 (x95 + 1)))) else (none)) else (none)) else (if x12 = x15 then ((potsherdlaw7_awake.f k).bind fun t274 => (some t274)) else (some false))
end
def potsherdlaw7_WearOne.f (k : Nat) (l0 : List Int) (l1 : List Bool) (a2 : Int) : Option (Bool) := if (l0.length : Int) > 60 then (potsherdlaw7_WearOne.j0 k l0 l1 a2 true) else (if (l1.length : Int) > 60 then (potsherdlaw7_WearOne.j0 k l0 l1 a2 true) else (potsherdlaw7_WearOne.j0 k l0 l1 a2 ((l0.length : Int) == 0)))
theorem potsherdlaw7_WearOne.mono_l : ∀ k, (∀ y0 y1 y2 y3, LeO (potsherdlaw7_WearOne.j0 k y0 y1 y2 y3) (potsherdlaw7_WearOne.j0 (k + 1) y0 y1 y2 y3)) ∧ (∀ y0 y1 y2 y3 y4 y5, LeO (potsherdlaw7_WearOne.l0 k y0 y1 y2 y3 y4 y5) (potsherdlaw7_WearOne.l0 (k + 1) y0 y1 y2 y3 y4 y5)) ∧ (∀ y0 y1 y2, LeO (potsherdlaw7_WearOne.j2 k y0 y1 y2) (potsherdlaw7_WearOne.j2 (k + 1) y0 y1 y2)) ∧ (∀ y0 y1 y2 y3 y4 y5, LeO (potsherdlaw7_WearOne.l1 k y0 y1 y2 y3 y4 y5) (potsherdlaw7_WearOne.l1 (k + 1) y0 y1 y2 y3 y4 y5)) ∧ (∀ y0 y1 y2 y3 y4, LeO (potsherdlaw7_WearOne.l2 k y0 y1 y2 y3 y4) (potsherdlaw7_WearOne.l2 (k + 1) y0 y1 y2 y3 y4))
  | 0 => ⟨fun _ _ _ _ r h => by simp [potsherdlaw7_WearOne.j0] at h, fun _ _ _ _ _ _ r h => by simp [potsherdlaw7_WearOne.l0] at h, fun _ _ _ r h => by simp [potsherdlaw7_WearOne.j2] at h, fun _ _ _ _ _ _ r h => by simp [potsherdlaw7_WearOne.l1] at h, fun _ _ _ _ _ r h => by simp [potsherdlaw7_WearOne.l2] at h⟩
  | k + 1 => by
    obtain ⟨ih0, ih1, ih2, ih3, ih4⟩ := potsherdlaw7_WearOne.mono_l k
    refine ⟨?_, ?_, ?_, ?_, ?_⟩
    · intro y0 y1 y2 y3
      unfold potsherdlaw7_WearOne.j0
      repeat' first
      | (with_reducible exact ih0 _ _ _ _)
      | (with_reducible exact ih1 _ _ _ _ _ _)
      | (with_reducible exact ih2 _ _ _)
      | (with_reducible exact ih3 _ _ _ _ _ _)
      | (with_reducible exact ih4 _ _ _ _ _)
      | (with_reducible exact potsherdlaw7_awake.mono _)
      | (with_reducible exact wear_Apart.mono _ _ _)
      | (with_reducible exact wear_Buckets.mono _ _ _)
      | (with_reducible exact LeO.refl _)
      | (with_reducible exact LeO.none _)
      | (with_reducible refine LeO.ite ?_ ?_)
      | (with_reducible refine LeO.bind ?_ (fun _ => ?_))
      | exact ih0 _ _ _ _
      | exact ih1 _ _ _ _ _ _
      | exact ih2 _ _ _
      | exact ih3 _ _ _ _ _ _
      | exact ih4 _ _ _ _ _
      | exact potsherdlaw7_awake.mono _
      | exact wear_Apart.mono _ _ _
      | exact wear_Buckets.mono _ _ _
      | exact LeO.none _
      | refine LeO.ite ?_ ?_
      | refine LeO.bind ?_ (fun _ => ?_)
    · intro y0 y1 y2 y3 y4 y5
      unfold potsherdlaw7_WearOne.l0
      repeat' first
      | (with_reducible exact ih0 _ _ _ _)
      | (with_reducible exact ih1 _ _ _ _ _ _)
      | (with_reducible exact ih2 _ _ _)
      | (with_reducible exact ih3 _ _ _ _ _ _)
      | (with_reducible exact ih4 _ _ _ _ _)
      | (with_reducible exact potsherdlaw7_awake.mono _)
      | (with_reducible exact wear_Apart.mono _ _ _)
      | (with_reducible exact wear_Buckets.mono _ _ _)
      | (with_reducible exact LeO.refl _)
      | (with_reducible exact LeO.none _)
      | (with_reducible refine LeO.ite ?_ ?_)
      | (with_reducible refine LeO.bind ?_ (fun _ => ?_))
      | exact ih0 _ _ _ _
      | exact ih1 _ _ _ _ _ _
      | exact ih2 _ _ _
      | exact ih3 _ _ _ _ _ _
      | exact ih4 _ _ _ _ _
      | exact potsherdlaw7_awake.mono _
      | exact wear_Apart.mono _ _ _
      | exact wear_Buckets.mono _ _ _
      | exact LeO.none _
      | refine LeO.ite ?_ ?_
      | refine LeO.bind ?_ (fun _ => ?_)
    · intro y0 y1 y2
      unfold potsherdlaw7_WearOne.j2
      repeat' first
      | (with_reducible exact ih0 _ _ _ _)
      | (with_reducible exact ih1 _ _ _ _ _ _)
      | (with_reducible exact ih2 _ _ _)
      | (with_reducible exact ih3 _ _ _ _ _ _)
      | (with_reducible exact ih4 _ _ _ _ _)
      | (with_reducible exact potsherdlaw7_awake.mono _)
      | (with_reducible exact wear_Apart.mono _ _ _)
      | (with_reducible exact wear_Buckets.mono _ _ _)
      | (with_reducible exact LeO.refl _)
      | (with_reducible exact LeO.none _)
      | (with_reducible refine LeO.ite ?_ ?_)
      | (with_reducible refine LeO.bind ?_ (fun _ => ?_))
      | exact ih0 _ _ _ _
      | exact ih1 _ _ _ _ _ _
      | exact ih2 _ _ _
      | exact ih3 _ _ _ _ _ _
      | exact ih4 _ _ _ _ _
      | exact potsherdlaw7_awake.mono _
      | exact wear_Apart.mono _ _ _
      | exact wear_Buckets.mono _ _ _
      | exact LeO.none _
      | refine LeO.ite ?_ ?_
      | refine LeO.bind ?_ (fun _ => ?_)
    · intro y0 y1 y2 y3 y4 y5
      unfold potsherdlaw7_WearOne.l1
      repeat' first
      | (with_reducible exact ih0 _ _ _ _)
      | (with_reducible exact ih1 _ _ _ _ _ _)
      | (with_reducible exact ih2 _ _ _)
      | (with_reducible exact ih3 _ _ _ _ _ _)
      | (with_reducible exact ih4 _ _ _ _ _)
      | (with_reducible exact potsherdlaw7_awake.mono _)
      | (with_reducible exact wear_Apart.mono _ _ _)
      | (with_reducible exact wear_Buckets.mono _ _ _)
      | (with_reducible exact LeO.refl _)
      | (with_reducible exact LeO.none _)
      | (with_reducible refine LeO.ite ?_ ?_)
      | (with_reducible refine LeO.bind ?_ (fun _ => ?_))
      | exact ih0 _ _ _ _
      | exact ih1 _ _ _ _ _ _
      | exact ih2 _ _ _
      | exact ih3 _ _ _ _ _ _
      | exact ih4 _ _ _ _ _
      | exact potsherdlaw7_awake.mono _
      | exact wear_Apart.mono _ _ _
      | exact wear_Buckets.mono _ _ _
      | exact LeO.none _
      | refine LeO.ite ?_ ?_
      | refine LeO.bind ?_ (fun _ => ?_)
    · intro y0 y1 y2 y3 y4
      unfold potsherdlaw7_WearOne.l2
      repeat' first
      | (with_reducible exact ih0 _ _ _ _)
      | (with_reducible exact ih1 _ _ _ _ _ _)
      | (with_reducible exact ih2 _ _ _)
      | (with_reducible exact ih3 _ _ _ _ _ _)
      | (with_reducible exact ih4 _ _ _ _ _)
      | (with_reducible exact potsherdlaw7_awake.mono _)
      | (with_reducible exact wear_Apart.mono _ _ _)
      | (with_reducible exact wear_Buckets.mono _ _ _)
      | (with_reducible exact LeO.refl _)
      | (with_reducible exact LeO.none _)
      | (with_reducible refine LeO.ite ?_ ?_)
      | (with_reducible refine LeO.bind ?_ (fun _ => ?_))
      | exact ih0 _ _ _ _
      | exact ih1 _ _ _ _ _ _
      | exact ih2 _ _ _
      | exact ih3 _ _ _ _ _ _
      | exact ih4 _ _ _ _ _
      | exact potsherdlaw7_awake.mono _
      | exact wear_Apart.mono _ _ _
      | exact wear_Buckets.mono _ _ _
      | exact LeO.none _
      | refine LeO.ite ?_ ?_
      | refine LeO.bind ?_ (fun _ => ?_)
theorem potsherdlaw7_WearOne.mono : ∀ a0 a1 a2 k, LeO (potsherdlaw7_WearOne.f k a0 a1 a2) (potsherdlaw7_WearOne.f (k + 1) a0 a1 a2) := by
  intro a0 a1 a2 k
  obtain ⟨ih0, ih1, ih2, ih3, ih4⟩ := potsherdlaw7_WearOne.mono_l k
  unfold potsherdlaw7_WearOne.f
  repeat' first
      | (with_reducible exact ih0 _ _ _ _)
      | (with_reducible exact ih1 _ _ _ _ _ _)
      | (with_reducible exact ih2 _ _ _)
      | (with_reducible exact ih3 _ _ _ _ _ _)
      | (with_reducible exact ih4 _ _ _ _ _)
      | (with_reducible exact potsherdlaw7_awake.mono _)
      | (with_reducible exact wear_Apart.mono _ _ _)
      | (with_reducible exact wear_Buckets.mono _ _ _)
      | (with_reducible exact LeO.refl _)
      | (with_reducible exact LeO.none _)
      | (with_reducible refine LeO.ite ?_ ?_)
      | (with_reducible refine LeO.bind ?_ (fun _ => ?_))
      | exact ih0 _ _ _ _
      | exact ih1 _ _ _ _ _ _
      | exact ih2 _ _ _
      | exact ih3 _ _ _ _ _ _
      | exact ih4 _ _ _ _ _
      | exact potsherdlaw7_awake.mono _
      | exact wear_Apart.mono _ _ _
      | exact wear_Buckets.mono _ _ _
      | exact LeO.none _
      | refine LeO.ite ?_ ?_
      | refine LeO.bind ?_ (fun _ => ?_)
set_option maxHeartbeats 8000000 in
set_option maxRecDepth 100000 in
theorem potsherdlaw7_WearOne.calls (k : Nat) (A0 : Option Addr) (c0 : Nat) (l0 : List Int) (A1 : Option Addr) (c1 : Nat) (l1 : List Bool) (a2 : Int) (r : Bool) (w : World) (hr0 : Kd.C (Kd.int .i64) w A0 l0.length l0) (hc0 : l0.length ≤ c0) (hr1 : Kd.C Kd.bool w A1 l1.length l1) (hc1 : l1.length ≤ c1) (h : potsherdlaw7_WearOne.f k l0 l1 a2 = some r) :
    Calls Try.prog 5 #[.slice A0 l0.length c0, .slice A1 l1.length c1, .int .i64 a2] w fun e w' => e = .returned (.bool r) ∧ Below w.heap.size w w' := by
  have HR0 := Aside0.mk hr0
  have HC0 := Aside0.mk hc0
  clear hr0 hc0
  have HR1 := Aside0.mk hr1
  have HC1 := Aside0.mk hc1
  clear hr1 hc1
  have HB := Aside0.mk (Below.refl w.heap.size w)
  have H : (if (l0.length : Int) > 60 then (potsherdlaw7_WearOne.j0 k l0 l1 a2 true) else (if (l1.length : Int) > 60 then (potsherdlaw7_WearOne.j0 k l0 l1 a2 true) else (potsherdlaw7_WearOne.j0 k l0 l1 a2 ((l0.length : Int) == 0)))) = some r := h
  clear h
  have HC4 := Aside0.mk H
  clear H
  go_enter Try.func5, Try.ntmps5
  go_upto_region 1 with (fail)
  go_cut [29] (fun v29 wc => ∃ (kq : Nat) (x29_3 : Bool), v29 = .bool x29_3 ∧ Aside0 (potsherdlaw7_WearOne.j0 kq l0 l1 a2 x29_3 = some r) ∧ Aside0 (kq ≤ k) ∧ Aside0 (Below w.heap.size w wc))
  case first =>
    have H := HC4.out
    clear HC4
    by_cases c5 : (l0.length : Int) > 60
    · rw [if_pos c5] at H
      have c5b0 : decide (60 < (l0.length : Int)) = true := decide_eq_true c5
      have c5b1 : decide (60 < l0.length) = true := decide_eq_true (by omega)
      clear c5
      (first | rw [c5b0] | (simp only [i64_w, i32_w]; rw [c5b0]) | skip)
      have H' := Aside0.mk H
      clear H
      go_wp2
      go_meet
      case rel => exact ⟨_, (true), (by first | rfl | (simp; done) | (simp [*]; done)), H', ⟨by first | omega | exact Nat.le_refl _⟩, ⟨by repeat (first | (with_reducible first | exact HB.out | apply below_alloc | apply pw_below_drewN | apply below_drew1) | exact HB.out)⟩⟩
    · rw [if_neg c5] at H
      have c5b0 : decide (60 < (l0.length : Int)) = false := decide_eq_false c5
      (try (rw [hl7_27] at c5b0))
      have c5b1 : decide (60 < l0.length) = false := decide_eq_false (by omega)
      clear c5
      (first | rw [c5b0] | (simp only [i64_w, i32_w]; rw [c5b0]) | skip)
      by_cases c6 : (l1.length : Int) > 60
      · rw [if_pos c6] at H
        have c6b0 : decide (60 < (l1.length : Int)) = true := decide_eq_true c6
        have c6b1 : decide (60 < l1.length) = true := decide_eq_true (by omega)
        clear c6
        have H' := Aside0.mk H
        clear H
        go_wp2
        go_meet
        case rel => exact ⟨_, (true), (by first | rfl | (simp; done) | (simp [*]; done)), H', ⟨by first | omega | exact Nat.le_refl _⟩, ⟨by repeat (first | (with_reducible first | exact HB.out | apply below_alloc | apply pw_below_drewN | apply below_drew1) | exact HB.out)⟩⟩
      · rw [if_neg c6] at H
        have c6b0 : decide (60 < (l1.length : Int)) = false := decide_eq_false c6
        (try (rw [hl7_27] at c6b0))
        have c6b1 : decide (60 < l1.length) = false := decide_eq_false (by omega)
        clear c6
        have H' := Aside0.mk H
        clear H
        go_wp2
        go_meet
        case rel => exact ⟨_, (((l0.length : Int) == 0)), (by first | rfl | (simp; done) | (simp [*]; done)), H', ⟨by first | omega | exact Nat.le_refl _⟩, ⟨by repeat (first | (with_reducible first | exact HB.out | apply below_alloc | apply pw_below_drewN | apply below_drew1) | exact HB.out)⟩⟩
  case rest =>
    clear HC4
    try clear c1
    try clear p2
    try clear c5
    try clear c5b0
    try clear c5b1
    try clear c6
    try clear c6b0
    try clear c6b1
    obtain ⟨kq, x29_3, rfl, HA, HJ3, HB⟩ := hcut
    cases kq with
    | zero => exact absurd HA.out (by simp [potsherdlaw7_WearOne.j0])
    | succ kj3 =>
      have H := HA.out
      clear HA
      simp only [potsherdlaw7_WearOne.j0] at H
      by_cases c7 : x29_3 = true
      · subst c7
        have H1 : ((potsherdlaw7_awake.f kj3).bind fun t259 => (some t259)) = some r := by rw [if_pos rfl] at H; exact H
        clear H
        have H := H1
        clear H1
        replace H := Option.bind_eq_some_iff.mp H
        obtain ⟨t259, A80, H⟩ := H
        replace H : (some t259) = some r := H
        have A8 := Aside0.mk A80
        clear A80
        obtain rfl := Option.some.inj H
        go_wp2_with (first | ((with_reducible refine gate_callee (f := 8) rfl ?_); refine goesL_ (some 30) rfl rfl Try.func8 (by kernel_rfl) rfl #[] rfl (by (try simp only [List.map_toArray, List.map_cons, List.map_nil]); first | done | rfl | (simp only [List.length_drop, List.length_take]; rfl)) ?_; (with_reducible refine (potsherdlaw7_awake.calls kj3  t259 _ A8.out).mono ?_); rintro e w9 ⟨rfl, hb⟩; refine ⟨_, rfl, ?_⟩; have n0_ := Aside0.mk (below_step (by repeat (first | (with_reducible first | exact HB.out | apply below_alloc | apply pw_below_drewN | apply below_drew1) | exact HB.out)) hb); clear HB; have HB := n0_; clear n0_; (try clear hb); (try clear hb2); (try clear hk); (try clear hi)))
        go_ret
        exact ⟨by first | rfl | (simp [errW_none, errW_some] <;> rfl) | (simp [*, errW_none, errW_some] <;> rfl), by repeat (first | (with_reducible first | exact HB.out | apply below_alloc | apply pw_below_drewN | apply below_drew1) | exact HB.out)⟩
      · replace c7 := Bool.eq_false_iff.mpr c7
        subst c7
        have H1 : (if 0 ≤ (l0.length : Int) then (if ((l0.length : Int) : Int).toNat ≤ 35184372088832 then (potsherdlaw7_WearOne.l0 kj3 l1 a2 (List.replicate ((l0.length : Int) : Int).toNat 0) l0 (l0.length : Int) 0) else (none)) else (none)) = some r := by rw [if_neg (show ¬ (false = true) by decide)] at H; exact H
        clear H
        have H := H1
        clear H1
        by_cases c10 : 0 ≤ (l0.length : Int)
        · rw [if_pos c10] at H
          have c10b0 := eq_true c10
          have c10b1 : decide (0 ≤ (l0.length : Int)) = true := decide_eq_true c10
          clear c10
          by_cases c11 : ((l0.length : Int) : Int).toNat ≤ 35184372088832
          · rw [if_pos c11] at H
            have c11b0 := eq_true c11
            have c11b1 : decide (((l0.length : Int) : Int).toNat ≤ 35184372088832) = true := decide_eq_true c11
            clear c11
            obtain ⟨y260, hy260⟩ : ∃ y_ : List Int, y_ = (List.replicate ((l0.length : Int) : Int).toNat 0) := ⟨_, rfl⟩
            replace H : (potsherdlaw7_WearOne.l0 kj3 l1 a2 y260 l0 (l0.length : Int) 0) = some r := by first | (rw [hy260]; with_reducible exact H) | (have H2_ := (Option.bind_some _ _).symm.trans H; rw [hy260]; with_reducible exact H2_) | (have H2_ := (Option.bind_some _ _).symm.trans H; with_reducible exact H2_) | with_reducible exact H | (rw [hy260]; exact H) | exact H
            have Ny260 := Aside0.mk hy260
            clear hy260
            have H' := Aside0.mk H
            clear H
            go_wp2_with (first | ((with_reducible refine gate_dst (N := 33) rfl ?_); (try (refine gate_guard (by rfl) ?_; dsimp only)); refine Kd.R_make (Kd.int .i64) _ 3 rfl (N := 33) rfl 22 _ _ rfl (l0.length : Int) rfl rfl Try.underlying22 (.int .i64 0) 8 info3 rfl (by decide) (by omega) 0 (ok := fun _ => True) (okp := fun _ => True) rfl (fun _ hk => hk) trivial (of_decide_eq_true (by first | (with_reducible assumption) | assumption)) (Nat.le_trans (Nat.mul_le_mul_right _ (of_decide_eq_true (by first | (with_reducible assumption) | assumption) : (l0.length : Int).toNat ≤ 35184372088832)) (by omega)) (Below.refl _ _) (Nat.le_refl _) ?_; intro v261 w12 ho13 hb hg_ hnew_; clear hg_ hnew_; (first | rw [← Ny260.out] at ho13 | (simp only [Int.reduceToNat] at ho13; rw [← Ny260.out] at ho13)); have n0_ := Aside0.mk (Kd.R_lower ho13 (below_size (by repeat (first | (with_reducible first | exact HB.out | apply below_alloc | apply pw_below_drewN | apply below_drew1) | exact HB.out)))); have n1_ := Aside0.mk (below_step (by repeat (first | (with_reducible first | exact HB.out | apply below_alloc | apply pw_below_drewN | apply below_drew1) | exact HB.out)) hb); clear HB; have HO262 := n0_; have HB := n1_; clear n0_ n1_; clear hb ho13))
            go_loopg [36] kj3 (fun kq v36 w' => ∃ (x7_2 : List Int) (x36_2 : Int), v36 = .int .i64 x36_2 ∧ Aside0 (potsherdlaw7_WearOne.l0 kq l1 a2 x7_2 l0 (l0.length : Int) x36_2 = some r) ∧ Aside0 (kq ≤ kj3) ∧ Aside0 (Kd.R (Kd.int .i64) 3 w' w.heap.size (fun _ => True) v261 x7_2) ∧ Aside0 (Below w.heap.size w w'))
            case atStart => exact ⟨(y260), (0), (by first | rfl | (simp; done) | (simp [*]; done)), H', ⟨Nat.le_refl _⟩, ⟨by (with_reducible repeat (first | apply Kd.R_alloc | apply Kd.R_drewN | apply Kd.R_drew)); exact HO262.out⟩, ⟨by repeat (first | (with_reducible first | exact HB.out | apply below_alloc | apply pw_below_drewN | apply below_drew1) | exact HB.out)⟩⟩
            case round =>
              clear H'
              try clear c1
              try clear p2
              try clear c5
              try clear c5b0
              try clear c5b1
              try clear c6
              try clear c6b0
              try clear c6b1
              try clear c7
              try clear c8
              try clear c10
              try clear c10b0
              try clear c10b1
              try clear c11
              try clear c11b0
              try clear c11b1
              try clear p2
              obtain ⟨x7_2, x36_2, rfl, HA, HK2, HO_7, HB⟩ := hrel
              cases gk with
              | zero => exact absurd HA.out (by simp [potsherdlaw7_WearOne.l0])
              | succ k2 =>
                have H := HA.out
                clear HA
                simp only [potsherdlaw7_WearOne.l0] at H
                by_cases c14 : x36_2 < (l0.length : Int)
                · rw [if_pos c14] at H
                  have c14b0 : decide (x36_2 < (l0.length : Int)) = true := decide_eq_true c14
                  clear c14
                  by_cases c15 : 0 ≤ x36_2
                  · rw [if_pos c15] at H
                    have c15b0 : decide (0 ≤ x36_2) = true := decide_eq_true c15
                    clear c15
                    by_cases c16 : x36_2 < (l0.length : Int)
                    · rw [if_pos c16] at H
                      have c16b0 : decide (x36_2 < (l0.length : Int)) = true := decide_eq_true c16
                      clear c16
                      by_cases c17 : x36_2 < (x7_2.length : Int)
                      · rw [if_pos c17] at H
                        have c17b0 : decide (x36_2 < (x7_2.length : Int)) = true := decide_eq_true c17
                        clear c17
                        obtain ⟨y264, hy264⟩ : ∃ y_ : List Int, y_ = (x7_2.set (x36_2 : Int).toNat (wrap64 (Int.tmod (IntKind.u64.wrap (rd l0 x36_2)) 1000))) := ⟨_, rfl⟩
                        replace H : (potsherdlaw7_WearOne.l0 k2 l1 a2 y264 l0 (l0.length : Int) (wrap64 (x36_2 + 1))) = some r := by first | (rw [hy264]; with_reducible exact H) | (have H2_ := (Option.bind_some _ _).symm.trans H; rw [hy264]; with_reducible exact H2_) | (have H2_ := (Option.bind_some _ _).symm.trans H; with_reducible exact H2_) | with_reducible exact H | (rw [hy264]; exact H) | exact H
                        have Ny264 := Aside0.mk hy264
                        clear hy264
                        have H' := Aside0.mk H
                        clear H
                        have p263 : 0 ≤ (x36_2 : Int) := of_decide_eq_true (by first | (with_reducible assumption) | assumption)
                        have q263 : x36_2 < (l0.length : Int) := of_decide_eq_true (by first | (with_reducible assumption) | assumption)
                        obtain ⟨ad263, e263, hx263_0⟩ := Kd.at_int HR0.out x36_2 p263 q263
                        cases e263
                        replace hx263_0 := (HB.out.cell (World.block_lt_of_cell? w _ hx263_0)).trans hx263_0
                        replace p263 := eq_true p263
                        replace q263 := eq_true q263
                        have p18 : 0 ≤ (x36_2 : Int) := of_decide_eq_true (by first | (with_reducible assumption) | assumption)
                        have q18 : (x36_2 : Int) < ((x7_2.length : Int) : Int) := of_decide_eq_true (by first | (with_reducible assumption) | assumption)
                        obtain ⟨go18, co18, eo18, gb18, gl18, cl18, HG18⟩ := Kd.R_form HO_7.out (by omega)
                        (first | cases eo18 | (injection eo18 with ea_ en_ ec_; (first | subst ea_ | (injection ea_ with ea_; subst ea_)); subst ec_; clear en_))
                        have GB18 := Aside0.mk gb18
                        have GG18 := Aside0.mk HG18
                        clear gb18 gl18 HG18
                        obtain ⟨hx18_0, hf18_0⟩ := Kd.R_celln 0 HO_7.out (x36_2 : Int) p18 q18
                        replace p18 := eq_true p18
                        replace q18 := eq_true q18
                        have HP19 := Kd.R_putg HO_7.out (x36_2 : Int) (wrap64 (Int.tmod (IntKind.u64.wrap (rd l0 x36_2)) 1000))
                        go_wp2_with (first | ((with_reducible refine gate_store (t := 3) (p := 47) rfl ?_); refine store_event (t := 3) (p := 47) (v := ?vo_w20) (w1 := (wr.setCell ⟨go18, (x36_2 : Int).toNat, none⟩ (.int .i64 (wrap64 (Int.tmod (IntKind.u64.wrap (rd l0 x36_2)) 1000))))) ?hg ?ho ?hn ?hr ?_; (case ho => rfl); (case hg => rfl); (case hn => rfl); (case hr => first | (go_simp; done) | (go_simp; rfl)); intro w20 hw; have hg : wr.grownBy w20 (some go18) := (by rw [hw]; exact HP19.2); have hp_ : Kd.R (Kd.int .i64) 3 w20 w.heap.size (fun _ => True) (.slice (some ⟨go18, 0, none⟩) x7_2.length co18) y264 := (by rw [hw, Ny264.out]; exact HP19.1); clear HP19; have n0_ := Aside0.mk (hp_); have n1_ := Aside0.mk ((by rw [hw]; exact below_set (HB.out) GB18.out : Below w.heap.size w w20)); clear HO_7; clear HB; have HO_7 := n0_; have HB := n1_; clear n0_ n1_; clear hg hw hp_))
                        go_roundg k2
                        case measure => have := HJ3.out; have := HK2.out; omega
                        case rel => exact ⟨(y264), (wrap64 (x36_2 + 1)), (by first | rfl | (simp; done) | (simp [*]; done)), H', ⟨by have := HJ3.out; have := HK2.out; omega⟩, ⟨by (with_reducible repeat (first | apply Kd.R_alloc | apply Kd.R_drewN | apply Kd.R_drew)); exact HO_7.out⟩, ⟨by repeat (first | (with_reducible first | exact HB.out | apply below_alloc | apply pw_below_drewN | apply below_drew1) | exact HB.out)⟩⟩
                      · rw [if_neg c17] at H
                        exact absurd H (by simp)
                    · rw [if_neg c16] at H
                      exact absurd H (by simp)
                  · rw [if_neg c15] at H
                    exact absurd H (by simp)
                · rw [if_neg c14] at H
                  have c14b0 : decide (x36_2 < (l0.length : Int)) = false := decide_eq_false c14
                  (try (rw [hl7_27] at c14b0))
                  clear c14
                  replace H := Option.bind_eq_some_iff.mp H
                  obtain ⟨t265, A210, H⟩ := H
                  replace H : (if (IntKind.u64.wrap ((x7_2.length : Int))) = 0 then (none) else (if 0 ≤ (wrap64 (Int.tmod (IntKind.u64.wrap (a2)) (IntKind.u64.wrap ((x7_2.length : Int))))) then (if (wrap64 (Int.tmod (IntKind.u64.wrap (a2)) (IntKind.u64.wrap ((x7_2.length : Int))))) < (x7_2.length : Int) then ((some (x7_2.set ((wrap64 (Int.tmod (IntKind.u64.wrap (a2)) (IntKind.u64.wrap ((x7_2.length : Int))))) : Int).toNat (wrap64 ((rd x7_2 (wrap64 (Int.tmod (IntKind.u64.wrap (a2)) (IntKind.u64.wrap ((x7_2.length : Int)))))) + 1)) : List Int)).bind fun y267 => ((wear_Apart.f k2 y267 l1).bind fun t268 => (if t268 > (wrap64 (t265 + 1)) then (potsherdlaw7_WearOne.j2 k2 l1 y267 true) else (potsherdlaw7_WearOne.j2 k2 l1 y267 (decide (t268 < (wrap64 (t265 - 1)))))))) else (none)) else (none))) = some r := H
                  have A21 := Aside0.mk A210
                  clear A210
                  by_cases c22 : (IntKind.u64.wrap ((x7_2.length : Int))) = 0
                  · rw [if_pos c22] at H
                    exact absurd H (by simp)
                  · rw [if_neg c22] at H
                    have c22b0 : ((IntKind.u64.wrap ((x7_2.length : Int))) == 0) = false := beq_eq_false_iff_ne.mpr c22
                    have c22b1 : ((IntKind.u64.wrap ((x7_2.length : Int))) != 0) = true := bne_iff_ne.mpr c22
                    obtain ⟨ji23, hji23⟩ : ∃ j_ : Int, (wrap64 (Int.tmod (IntKind.u64.wrap (a2)) (IntKind.u64.wrap ((x7_2.length : Int))))) = j_ := ⟨_, rfl⟩
                    replace H : (if 0 ≤ (ji23) then (if (ji23) < (x7_2.length : Int) then ((some (x7_2.set ((ji23) : Int).toNat (wrap64 ((rd x7_2 (ji23)) + 1)) : List Int)).bind fun y267 => ((wear_Apart.f k2 y267 l1).bind fun t268 => (if t268 > (wrap64 (t265 + 1)) then (potsherdlaw7_WearOne.j2 k2 l1 y267 true) else (potsherdlaw7_WearOne.j2 k2 l1 y267 (decide (t268 < (wrap64 (t265 - 1)))))))) else (none)) else (none)) = some r := by first | (rw [hji23] at H; exact H) | (simp only [hji23] at H ⊢; exact H)
                    (try rw [hji23] at A21)
                    have hji23w : (IntKind.i64.wrap (Int.tmod (IntKind.u64.wrap (a2)) (IntKind.u64.wrap ((x7_2.length : Int))))) = ji23 := (i64_w _).trans hji23
                    by_cases c24 : 0 ≤ (ji23)
                    · rw [if_pos c24] at H
                      have c24b0 : decide (0 ≤ (ji23)) = true := decide_eq_true c24
                      clear c24
                      by_cases c25 : (ji23) < (x7_2.length : Int)
                      · rw [if_pos c25] at H
                        have c25b0 : decide ((ji23) < (x7_2.length : Int)) = true := decide_eq_true c25
                        clear c25
                        obtain ⟨y267, hy267⟩ : ∃ y_ : List Int, y_ = (x7_2.set ((ji23) : Int).toNat (wrap64 ((rd x7_2 (ji23)) + 1))) := ⟨_, rfl⟩
                        replace H : ((wear_Apart.f k2 y267 l1).bind fun t268 => (if t268 > (wrap64 (t265 + 1)) then (potsherdlaw7_WearOne.j2 k2 l1 y267 true) else (potsherdlaw7_WearOne.j2 k2 l1 y267 (decide (t268 < (wrap64 (t265 - 1))))))) = some r := by first | (rw [hy267]; with_reducible exact H) | (have H2_ := (Option.bind_some _ _).symm.trans H; rw [hy267]; with_reducible exact H2_) | (have H2_ := (Option.bind_some _ _).symm.trans H; with_reducible exact H2_) | with_reducible exact H | (rw [hy267]; exact H) | exact H
                        have Ny267 := Aside0.mk hy267
                        clear hy267
                        replace H := Option.bind_eq_some_iff.mp H
                        obtain ⟨t268, A270, H⟩ := H
                        replace H : (if t268 > (wrap64 (t265 + 1)) then (potsherdlaw7_WearOne.j2 k2 l1 y267 true) else (potsherdlaw7_WearOne.j2 k2 l1 y267 (decide (t268 < (wrap64 (t265 - 1)))))) = some r := H
                        have A27 := Aside0.mk A270
                        clear A270
                        have HC28 := Aside0.mk H
                        clear H
                        obtain ⟨Ao29, co29, eo29⟩ := Kd.R_slice HO_7.out
                        subst eo29
                        go_upto_region 13 with (first | ((with_reducible refine gate_callee (f := 11) rfl ?_); refine goesL_ (some 51) rfl rfl Try.func11 (by kernel_rfl) rfl #[.slice Ao29 x7_2.length co29, .slice A1 l1.length c1] rfl (by (try simp only [List.map_toArray, List.map_cons, List.map_nil]); first | done | rfl | (simp only [List.length_drop, List.length_take]; rfl)) ?_; (with_reducible refine (wear_Apart.calls k2 _ _ x7_2 _ _ l1 t265 _ ?side1 ?side2 ?side3 ?side4 A21.out).mono ?_); (case side1 => repeat (first | exact (Kd.R_reads' HO_7.out).2.2 | (with_reducible refine Kd.C_alloc ?_ _) | (with_reducible refine Kd.C_drewN ?_ _) | (with_reducible refine Kd.C_drew ?_))); (case side2 => exact (Kd.R_reads' HO_7.out).2.1); (case side3 => repeat (first | exact (Kd.C_below HR1.out HB.out) | (with_reducible refine Kd.C_alloc ?_ _) | (with_reducible refine Kd.C_drewN ?_ _) | (with_reducible refine Kd.C_drew ?_))); (case side4 => exact HC1.out); rintro e w30 ⟨rfl, hb⟩; refine ⟨_, rfl, ?_⟩; have n0_ := Aside0.mk (Kd.R_below (by (with_reducible repeat (first | apply Kd.R_alloc | apply Kd.R_drewN | apply Kd.R_drew)); exact HO_7.out) hb); have n1_ := Aside0.mk (below_step (by repeat (first | (with_reducible first | exact HB.out | apply below_alloc | apply pw_below_drewN | apply below_drew1) | exact HB.out)) hb); clear HO_7; clear HB; have HO_7 := n0_; have HB := n1_; clear n0_ n1_; (try clear hb); (try clear hb2); (try clear hk); (try clear hi); have p266 : 0 ≤ ((ji23) : Int) := of_decide_eq_true (by first | (with_reducible assumption) | assumption); have q266 : (ji23) < (x7_2.length : Int) := of_decide_eq_true (by first | (with_reducible assumption) | assumption); obtain ⟨ad266, e266, hx266_0⟩ := Kd.at_int (Kd.R_reads' HO_7.out).2.2 (ji23) p266 q266; cases e266; replace p266 := eq_true p266; replace q266 := eq_true q266; have p26 : 0 ≤ ((ji23) : Int) := of_decide_eq_true (by first | (with_reducible assumption) | assumption); have q26 : ((ji23) : Int) < ((x7_2.length : Int) : Int) := of_decide_eq_true (by first | (with_reducible assumption) | assumption); obtain ⟨go26, co26, eo26, gb26, gl26, cl26, HG26⟩ := Kd.R_form HO_7.out (by omega); (first | cases eo26 | (injection eo26 with ea_ en_ ec_; (first | subst ea_ | (injection ea_ with ea_; subst ea_)); subst ec_; clear en_)); have GB26 := Aside0.mk gb26; have GG26 := Aside0.mk HG26; clear gb26 gl26 HG26; (first | simp only [add_plain] at hx266_0 | skip); obtain ⟨hx26_0, hf26_0⟩ := Kd.R_celln 0 HO_7.out ((ji23) : Int) p26 q26; replace p26 := eq_true p26; replace q26 := eq_true q26; obtain ⟨hy31_, hz31_⟩ := Kd.R_celln 0 HO_7.out ((ji23) : Int) (of_decide_eq_true (by first | (with_reducible assumption) | assumption)) (of_decide_eq_true (by first | (with_reducible assumption) | assumption)); have HP31 := Kd.R_putg HO_7.out ((ji23) : Int) (wrap64 ((rd x7_2 (ji23)) + 1))) | ((with_reducible refine gate_store (t := 3) (p := 64) rfl ?_); refine store_event (t := 3) (p := 64) (v := ?vo_w32) (w1 := (w30.setCell ⟨go26, ((ji23) : Int).toNat, none⟩ (.int .i64 (wrap64 ((rd x7_2 (ji23)) + 1))))) ?hg ?ho ?hn ?hr ?_; (case ho => rfl); (case hg => rfl); (case hn => rfl); (case hr => first | (go_simp; done) | (go_simp; rfl)); intro w32 hw; have hg : w30.grownBy w32 (some go26) := (by rw [hw]; exact HP31.2); have hp_ : Kd.R (Kd.int .i64) 3 w32 w.heap.size (fun _ => True) (.slice (some ⟨go26, 0, none⟩) x7_2.length co29) y267 := (by rw [hw, Ny267.out]; exact HP31.1); clear HP31; have n0_ := Aside0.mk (hp_); have n1_ := Aside0.mk ((by rw [hw]; exact below_set (HB.out) GB26.out : Below w.heap.size w w32)); clear HO_7; clear HB; have HO_7 := n0_; have HB := n1_; clear n0_ n1_; clear hg hw hp_) | ((with_reducible refine gate_callee (f := 11) rfl ?_); refine goesL_ (some 67) rfl rfl Try.func11 (by kernel_rfl) rfl #[.slice (some ⟨go26, 0, none⟩) y267.length co29, .slice A1 l1.length c1] rfl (by (try simp only [List.map_toArray, List.map_cons, List.map_nil]); first | done | (rw [show y267.length = x7_2.length from (Kd.R_reads' HO_7.out).1.symm] <;> rfl) | rfl | (simp only [List.length_drop, List.length_take]; rfl)) ?_; (with_reducible refine (wear_Apart.calls k2 _ _ y267 _ _ l1 t268 _ ?side1 ?side2 ?side3 ?side4 A27.out).mono ?_); (case side1 => repeat (first | exact (Kd.R_reads' HO_7.out).2.2 | (with_reducible refine Kd.C_alloc ?_ _) | (with_reducible refine Kd.C_drewN ?_ _) | (with_reducible refine Kd.C_drew ?_))); (case side2 => rw [show y267.length = x7_2.length from (Kd.R_reads' HO_7.out).1.symm]; exact (Kd.R_reads' HO_7.out).2.1); (case side3 => repeat (first | exact (Kd.C_below HR1.out HB.out) | (with_reducible refine Kd.C_alloc ?_ _) | (with_reducible refine Kd.C_drewN ?_ _) | (with_reducible refine Kd.C_drew ?_))); (case side4 => exact HC1.out); rintro e w33 ⟨rfl, hb⟩; refine ⟨_, rfl, ?_⟩; have n0_ := Aside0.mk (Kd.R_below (by (with_reducible repeat (first | apply Kd.R_alloc | apply Kd.R_drewN | apply Kd.R_drew)); exact HO_7.out) hb); have n1_ := Aside0.mk (below_step (by repeat (first | (with_reducible first | exact HB.out | apply below_alloc | apply pw_below_drewN | apply below_drew1) | exact HB.out)) hb); clear HO_7; clear HB; have HO_7 := n0_; have HB := n1_; clear n0_ n1_; (try clear hb); (try clear hb2); (try clear hk); (try clear hi)))
                        (try simp only [Act.put, List.setIfInBounds_toArray, List.set_cons_zero, List.set_cons_succ])
                        go_cut [77] (fun v77 wc => ∃ (kq : Nat) (x77_27 : Bool), v77 = .bool x77_27 ∧ Aside0 (potsherdlaw7_WearOne.j2 kq l1 y267 x77_27 = some r) ∧ Aside0 (kq ≤ k2) ∧ Aside0 (Kd.R (Kd.int .i64) 3 wc w.heap.size (fun _ => True) (.slice (some ⟨go26, 0, none⟩) x7_2.length co29) y267) ∧ Aside0 (Below w.heap.size w wc))
                        case first =>
                          have H := HC28.out
                          clear HC28
                          by_cases c34 : t268 > (wrap64 (t265 + 1))
                          · rw [if_pos c34] at H
                            have c34b0 : decide ((wrap64 (t265 + 1)) < t268) = true := decide_eq_true c34
                            clear c34
                            (first | rw [c34b0] | (simp only [i64_w, i32_w]; rw [c34b0]) | skip)
                            have H' := Aside0.mk H
                            clear H
                            go_wp2
                            go_meet
                            case rel => exact ⟨_, (true), (by first | rfl | (simp; done) | (simp [*]; done)), H', ⟨by have := HJ3.out; have := HK2.out; first | omega | exact Nat.le_refl _⟩, ⟨by (with_reducible repeat (first | apply Kd.R_alloc | apply Kd.R_drewN | apply Kd.R_drew)); exact HO_7.out⟩, ⟨by repeat (first | (with_reducible first | exact HB.out | apply below_alloc | apply pw_below_drewN | apply below_drew1) | exact HB.out)⟩⟩
                          · rw [if_neg c34] at H
                            have c34b0 : decide ((wrap64 (t265 + 1)) < t268) = false := decide_eq_false c34
                            (try (rw [hl7_27] at c34b0))
                            clear c34
                            (first | rw [c34b0] | (simp only [i64_w, i32_w]; rw [c34b0]) | skip)
                            have H' := Aside0.mk H
                            clear H
                            go_wp2
                            go_meet
                            case rel => exact ⟨_, (decide (t268 < (wrap64 (t265 - 1)))), (by first | rfl | (simp; done) | (simp [*]; done)), H', ⟨by have := HJ3.out; have := HK2.out; first | omega | exact Nat.le_refl _⟩, ⟨by (with_reducible repeat (first | apply Kd.R_alloc | apply Kd.R_drewN | apply Kd.R_drew)); exact HO_7.out⟩, ⟨by repeat (first | (with_reducible first | exact HB.out | apply below_alloc | apply pw_below_drewN | apply below_drew1) | exact HB.out)⟩⟩
                        case rest =>
                          clear HC28
                          try clear c1
                          try clear p1
                          try clear q1
                          try clear hx1
                          try clear c2
                          try clear p2
                          try clear q2
                          try clear hx2
                          try clear c3
                          try clear c5
                          try clear c5b0
                          try clear c5b1
                          try clear c6
                          try clear c6b0
                          try clear c6b1
                          try clear p6
                          try clear c7
                          try clear c8
                          try clear c10
                          try clear c10b0
                          try clear c10b1
                          try clear c11
                          try clear c11b0
                          try clear c11b1
                          try clear c14
                          try clear c14b0
                          try clear c15
                          try clear c15b0
                          try clear c16
                          try clear c16b0
                          try clear c17
                          try clear c17b0
                          try clear p18
                          try clear q18
                          try clear hx18
                          try clear hf18
                          try clear c22
                          try clear c22b0
                          try clear c22b1
                          try clear c24
                          try clear c24b0
                          try clear c25
                          try clear c25b0
                          try clear p26
                          try clear q26
                          try clear hx26
                          try clear hf26
                          try clear c34
                          try clear c34b0
                          try clear hx18_0
                          try clear hx263_0
                          try clear hx266_0
                          try clear hx26_0
                          try clear p18
                          try clear p2
                          try clear p26
                          try clear p263
                          try clear p266
                          try clear q18
                          try clear q26
                          try clear q263
                          try clear q266
                          obtain ⟨kq, x77_27, rfl, HA, HJ27, HO_7, HB⟩ := hcut
                          have hl7_27 := (Kd.R_reads' HO_7.out).1
                          rw [hl7_27] at HO_7
                          (try simp only [hl7_27])
                          cases kq with
                          | zero => exact absurd HA.out (by simp [potsherdlaw7_WearOne.j2])
                          | succ kj27 =>
                            have H := HA.out
                            clear HA
                            simp only [potsherdlaw7_WearOne.j2] at H
                            by_cases c35 : x77_27 = true
                            · subst c35
                              have H1 : (some false) = some r := by rw [if_pos rfl] at H; exact H
                              clear H
                              have H := H1
                              clear H1
                              obtain rfl := Option.some.inj H
                              go_wp2
                              go_ret
                              exact ⟨by first | rfl | (simp [errW_none, errW_some] <;> rfl) | (simp only [← hji23]; first | rfl | (simp [errW_none, errW_some] <;> rfl)) | (simp [*, errW_none, errW_some] <;> rfl), by repeat (first | (with_reducible first | exact HB.out | apply below_alloc | apply pw_below_drewN | apply below_drew1) | exact HB.out)⟩
                            · replace c35 := Bool.eq_false_iff.mpr c35
                              subst c35
                              have H1 : ((wear_Buckets.f kj27 y267 l1).bind fun t269 => (potsherdlaw7_WearOne.l1 kj27 l1 y267 0 t269 (t269.length : Int) 0)) = some r := by rw [if_neg (show ¬ (false = true) by decide)] at H; exact H
                              clear H
                              have H := H1
                              clear H1
                              replace H := Option.bind_eq_some_iff.mp H
                              obtain ⟨t269, A360, H⟩ := H
                              replace H : (potsherdlaw7_WearOne.l1 kj27 l1 y267 0 t269 (t269.length : Int) 0) = some r := H
                              have A36 := Aside0.mk A360
                              clear A360
                              have H' := Aside0.mk H
                              clear H
                              go_wp2_with (first | ((with_reducible refine gate_callee (f := 20) rfl ?_); refine goesL_ (some 80) rfl rfl Try.func20 (by kernel_rfl) rfl #[.slice (some ⟨go26, 0, none⟩) y267.length co29, .slice A1 l1.length c1] rfl (by (try simp only [List.map_toArray, List.map_cons, List.map_nil]); first | done | rfl | (simp only [List.length_drop, List.length_take]; rfl)) ?_; (with_reducible refine (wear_Buckets.calls kj27 _ _ y267 _ _ l1 t269 _ ?side1 ?side2 ?side3 ?side4 A36.out).mono ?_); (case side1 => repeat (first | exact (Kd.R_reads' HO_7.out).2.2 | (with_reducible refine Kd.C_alloc ?_ _) | (with_reducible refine Kd.C_drewN ?_ _) | (with_reducible refine Kd.C_drew ?_))); (case side2 => exact (Kd.R_reads' HO_7.out).2.1); (case side3 => repeat (first | exact (Kd.C_below HR1.out HB.out) | (with_reducible refine Kd.C_alloc ?_ _) | (with_reducible refine Kd.C_drewN ?_ _) | (with_reducible refine Kd.C_drew ?_))); (case side4 => exact HC1.out); rintro e w37 ⟨v270, rfl, ho0, hb⟩; refine ⟨_, rfl, ?_⟩; have n0_ := Aside0.mk (Kd.R_elder' (by (with_reducible repeat (first | apply Kd.R_alloc | apply Kd.R_drewN | apply Kd.R_drew)); exact HO_7.out) (Kd.R_base ho0) hb); have n1_ := Aside0.mk (Kd.R_lower (Kd.R_new' ho0 (Kd.R_lt (by (with_reducible repeat (first | apply Kd.R_alloc | apply Kd.R_drewN | apply Kd.R_drew)); exact HO_7.out))) (below_size (by repeat (first | (with_reducible first | exact HB.out | apply below_alloc | apply pw_below_drewN | apply below_drew1) | exact HB.out)))); have n2_ := Aside0.mk (below_step (by repeat (first | (with_reducible first | exact HB.out | apply below_alloc | apply pw_below_drewN | apply below_drew1) | exact HB.out)) hb); clear HO_7; clear HB; have HO_7 := n0_; have HO271 := n1_; have HB := n2_; clear n0_ n1_ n2_; (try clear hb); (try clear hb2); (try clear hk); (try clear hi); (try clear ho0); obtain ⟨Ao38, co38, eo38⟩ := Kd.R_slice HO271.out; subst eo38))
                              go_loopg [12, 82] kj27 (fun kq v12 v82 w' => ∃ (x12_4 : Int) (x82_4 : Int), v12 = .int .i64 x12_4 ∧ v82 = .int .i64 x82_4 ∧ Aside0 (potsherdlaw7_WearOne.l1 kq l1 y267 x12_4 t269 (t269.length : Int) x82_4 = some r) ∧ Aside0 (kq ≤ kj27) ∧ Aside0 (Kd.R (Kd.int .i64) 3 w' w.heap.size (fun k_ => some k_ ≠ ((.slice Ao38 t269.length co38) : Value).ownBlock) (.slice (some ⟨go26, 0, none⟩) y267.length co29) y267) ∧ Aside0 (Kd.R (Kd.int .i64) 3 w' w.heap.size (fun k_ => some k_ ≠ ((.slice (some ⟨go26, 0, none⟩) y267.length co29) : Value).ownBlock) (.slice Ao38 t269.length co38) t269) ∧ Aside0 (Below w.heap.size w w'))
                              case atStart => exact ⟨(0), (0), (by first | rfl | (simp; done) | (simp [*]; done)), (by first | rfl | (simp; done) | (simp [*]; done)), H', ⟨Nat.le_refl _⟩, ⟨by (try simp only [hl7_27]); (with_reducible repeat (first | apply Kd.R_alloc | apply Kd.R_drewN | apply Kd.R_drew)); exact Kd.R_mono HO_7.out (fun _ hk => hk.2)⟩, ⟨by (try simp only [hl7_27]); (with_reducible repeat (first | apply Kd.R_alloc | apply Kd.R_drewN | apply Kd.R_drew)); exact Kd.R_mono HO271.out (fun _ hk => hk.2)⟩, ⟨by repeat (first | (with_reducible first | exact HB.out | apply below_alloc | apply pw_below_drewN | apply below_drew1) | exact HB.out)⟩⟩
                              case round =>
                                clear H'
                                try clear c1
                                try clear p1
                                try clear q1
                                try clear hx1
                                try clear c2
                                try clear p2
                                try clear q2
                                try clear hx2
                                try clear c3
                                try clear c5
                                try clear c5b0
                                try clear c5b1
                                try clear c6
                                try clear c6b0
                                try clear c6b1
                                try clear p6
                                try clear c7
                                try clear c8
                                try clear c10
                                try clear c10b0
                                try clear c10b1
                                try clear c11
                                try clear c11b0
                                try clear c11b1
                                try clear c14
                                try clear c14b0
                                try clear c15
                                try clear c15b0
                                try clear c16
                                try clear c16b0
                                try clear c17
                                try clear c17b0
                                try clear p18
                                try clear q18
                                try clear hx18
                                try clear hf18
                                try clear c20
                                try clear c22
                                try clear c22b0
                                try clear c22b1
                                try clear c24
                                try clear c24b0
                                try clear c25
                                try clear c25b0
                                try clear p26
                                try clear q26
                                try clear hx26
                                try clear hf26
                                try clear c34
                                try clear c34b0
                                try clear c35
                                try clear hx18_0
                                try clear hx263_0
                                try clear hx266_0
                                try clear hx26_0
                                try clear p1
                                try clear p18
                                try clear p2
                                try clear p26
                                try clear p263
                                try clear p266
                                try clear p6
                                try clear q1
                                try clear q18
                                try clear q2
                                try clear q26
                                try clear q263
                                try clear q266
                                obtain ⟨x12_4, x82_4, rfl, rfl, HA, HK4, HO_7, HO_80, HB⟩ := hrel
                                cases gk with
                                | zero => exact absurd HA.out (by simp [potsherdlaw7_WearOne.l1])
                                | succ k4 =>
                                  have H := HA.out
                                  clear HA
                                  simp only [potsherdlaw7_WearOne.l1] at H
                                  by_cases c39 : x82_4 < (t269.length : Int)
                                  · rw [if_pos c39] at H
                                    have c39b0 : decide (x82_4 < (t269.length : Int)) = true := decide_eq_true c39
                                    clear c39
                                    by_cases c40 : 0 ≤ x82_4
                                    · rw [if_pos c40] at H
                                      have c40b0 : decide (0 ≤ x82_4) = true := decide_eq_true c40
                                      clear c40
                                      by_cases c41 : x82_4 < (t269.length : Int)
                                      · rw [if_pos c41] at H
                                        have c41b0 : decide (x82_4 < (t269.length : Int)) = true := decide_eq_true c41
                                        clear c41
                                        have H' := Aside0.mk H
                                        clear H
                                        have p272 : 0 ≤ (x82_4 : Int) := of_decide_eq_true (by first | (with_reducible assumption) | assumption)
                                        have q272 : x82_4 < (t269.length : Int) := of_decide_eq_true (by first | (with_reducible assumption) | assumption)
                                        obtain ⟨ad272, e272, hx272_0⟩ := Kd.at_int (Kd.R_reads' HO_80.out).2.2 x82_4 p272 q272
                                        cases e272
                                        replace p272 := eq_true p272
                                        replace q272 := eq_true q272
                                        go_wp2
                                        go_roundg k4
                                        case measure => have := HJ3.out; have := HK2.out; have := HJ27.out; have := HK4.out; omega
                                        case rel => exact ⟨(wrap64 (x12_4 + (rd t269 x82_4))), (wrap64 (x82_4 + 1)), (by first | rfl | (simp; done) | (simp [*]; done)), (by first | rfl | (simp; done) | (simp [*]; done)), H', ⟨by have := HJ3.out; have := HK2.out; have := HJ27.out; have := HK4.out; omega⟩, ⟨by (try simp only [hl7_27]); (with_reducible repeat (first | apply Kd.R_alloc | apply Kd.R_drewN | apply Kd.R_drew)); exact HO_7.out⟩, ⟨by (try simp only [hl7_27]); (with_reducible repeat (first | apply Kd.R_alloc | apply Kd.R_drewN | apply Kd.R_drew)); exact HO_80.out⟩, ⟨by repeat (first | (with_reducible first | exact HB.out | apply below_alloc | apply pw_below_drewN | apply below_drew1) | exact HB.out)⟩⟩
                                      · rw [if_neg c41] at H
                                        exact absurd H (by simp)
                                    · rw [if_neg c40] at H
                                      exact absurd H (by simp)
                                  · rw [if_neg c39] at H
                                    have c39b0 : decide (x82_4 < (t269.length : Int)) = false := decide_eq_false c39
                                    (try (rw [hl7_27] at c39b0))
                                    clear c39
                                    obtain ⟨ji42, hji42⟩ : ∃ j_ : Int, (mn (y267.length : Int) (l1.length : Int)) = j_ := ⟨_, rfl⟩
                                    replace H : (potsherdlaw7_WearOne.l2 k4 l1 x12_4 0 ji42 0) = some r := by first | (rw [hji42] at H; exact H) | (simp only [hji42] at H ⊢; exact H)
                                    have hji42_ : (if (l1.length : Int) < (y267.length : Int) then (l1.length : Int) else (y267.length : Int)) = ji42 := hji42
                                    have hji42n : (if l1.length < y267.length then (l1.length : Int) else (y267.length : Int)) = ji42 := by rw [← hji42_]; simp only [Int.ofNat_lt]
                                    have H' := Aside0.mk H
                                    clear H
                                    go_wp2
                                    go_loopg [15, 95] k4 (fun kq v15 v95 w' => ∃ (x15_5 : Int) (x95_5 : Int), v15 = .int .i64 x15_5 ∧ v95 = .int .i64 x95_5 ∧ Aside0 (potsherdlaw7_WearOne.l2 kq l1 x12_4 x15_5 ji42 x95_5 = some r) ∧ Aside0 (kq ≤ k4) ∧ Aside0 (Below w.heap.size w w'))
                                    case atStart => exact ⟨(0), (0), (by first | rfl | (simp; done) | (simp [*]; done)), (by first | rfl | (simp; done) | (simp [*]; done)), H', ⟨Nat.le_refl _⟩, ⟨by repeat (first | (with_reducible first | exact HB.out | apply below_alloc | apply pw_below_drewN | apply below_drew1) | exact HB.out)⟩⟩
                                    case round =>
                                      clear H'
                                      try clear c1
                                      try clear p1
                                      try clear q1
                                      try clear hx1
                                      try clear c2
                                      try clear p2
                                      try clear q2
                                      try clear hx2
                                      try clear c3
                                      try clear c4
                                      try clear c5
                                      try clear c5b0
                                      try clear c5b1
                                      try clear c6
                                      try clear c6b0
                                      try clear c6b1
                                      try clear p6
                                      try clear c7
                                      try clear c8
                                      try clear c10
                                      try clear c10b0
                                      try clear c10b1
                                      try clear c11
                                      try clear c11b0
                                      try clear c11b1
                                      try clear c14
                                      try clear c14b0
                                      try clear c15
                                      try clear c15b0
                                      try clear c16
                                      try clear c16b0
                                      try clear c17
                                      try clear c17b0
                                      try clear p18
                                      try clear q18
                                      try clear hx18
                                      try clear hf18
                                      try clear c20
                                      try clear c22
                                      try clear c22b0
                                      try clear c22b1
                                      try clear c24
                                      try clear c24b0
                                      try clear c25
                                      try clear c25b0
                                      try clear p26
                                      try clear q26
                                      try clear hx26
                                      try clear hf26
                                      try clear p27
                                      try clear q27
                                      try clear hx27
                                      try clear c34
                                      try clear c34b0
                                      try clear c35
                                      try clear c39
                                      try clear c39b0
                                      try clear c40
                                      try clear c40b0
                                      try clear c41
                                      try clear c41b0
                                      try clear hx18_0
                                      try clear hx263_0
                                      try clear hx266_0
                                      try clear hx26_0
                                      try clear hx272_0
                                      try clear p1
                                      try clear p18
                                      try clear p2
                                      try clear p26
                                      try clear p263
                                      try clear p266
                                      try clear p272
                                      try clear p6
                                      try clear q1
                                      try clear q18
                                      try clear q2
                                      try clear q26
                                      try clear q263
                                      try clear q266
                                      try clear q272
                                      obtain ⟨x15_5, x95_5, rfl, rfl, HA, HK5, HB⟩ := hrel
                                      cases gk with
                                      | zero => exact absurd HA.out (by simp [potsherdlaw7_WearOne.l2])
                                      | succ k5 =>
                                        have H := HA.out
                                        clear HA
                                        simp only [potsherdlaw7_WearOne.l2] at H
                                        by_cases c43 : x95_5 < ji42
                                        · rw [if_pos c43] at H
                                          have c43b0 : decide (x95_5 < ji42) = true := decide_eq_true c43
                                          clear c43
                                          by_cases c44 : 0 ≤ x95_5
                                          · rw [if_pos c44] at H
                                            have c44b0 : decide (0 ≤ x95_5) = true := decide_eq_true c44
                                            clear c44
                                            by_cases c45 : x95_5 < (l1.length : Int)
                                            · rw [if_pos c45] at H
                                              have c45b0 : decide (x95_5 < (l1.length : Int)) = true := decide_eq_true c45
                                              clear c45
                                              obtain ⟨bq46, hbq46⟩ : ∃ b_ : Bool, b_ = (rdOf false l1 x95_5) := ⟨_, rfl⟩
                                              replace H : (if bq46 = true then (potsherdlaw7_WearOne.l2 k5 l1 x12_4 (wrap64 (x15_5 + 1)) ji42 (wrap64 (x95_5 + 1))) else (potsherdlaw7_WearOne.l2 k5 l1 x12_4 x15_5 ji42 (wrap64 (x95_5 + 1)))) = some r := by rw [← hbq46] at H; exact H
                                              have Nbq46 := Aside0.mk hbq46
                                              clear hbq46
                                              by_cases c47 : bq46 = true
                                              · subst c47
                                                have H1 : (potsherdlaw7_WearOne.l2 k5 l1 x12_4 (wrap64 (x15_5 + 1)) ji42 (wrap64 (x95_5 + 1))) = some r := by rw [if_pos rfl] at H; exact H
                                                clear H
                                                have H := H1
                                                clear H1
                                                have H' := Aside0.mk H
                                                clear H
                                                have p273 : 0 ≤ (x95_5 : Int) := of_decide_eq_true (by first | (with_reducible assumption) | assumption)
                                                have q273 : x95_5 < (l1.length : Int) := of_decide_eq_true (by first | (with_reducible assumption) | assumption)
                                                obtain ⟨ad273, e273, hx273_0⟩ := Kd.at_bool HR1.out x95_5 p273 q273
                                                (try rw [← Nbq46.out] at hx273_0)
                                                cases e273
                                                replace hx273_0 := (HB.out.cell (World.block_lt_of_cell? w _ hx273_0)).trans hx273_0
                                                replace p273 := eq_true p273
                                                replace q273 := eq_true q273
                                                go_wp2
                                                go_roundg k5
                                                case measure => have := HJ3.out; have := HK2.out; have := HJ27.out; have := HK4.out; have := HK5.out; omega
                                                case rel => exact ⟨(wrap64 (x15_5 + 1)), (wrap64 (x95_5 + 1)), (by first | rfl | (simp; done) | (simp [*]; done)), (by first | rfl | (simp; done) | (simp [*]; done)), H', ⟨by have := HJ3.out; have := HK2.out; have := HJ27.out; have := HK4.out; have := HK5.out; omega⟩, ⟨by repeat (first | (with_reducible first | exact HB.out | apply below_alloc | apply pw_below_drewN | apply below_drew1) | exact HB.out)⟩⟩
                                              · replace c47 := Bool.eq_false_iff.mpr c47
                                                subst c47
                                                have H1 : (potsherdlaw7_WearOne.l2 k5 l1 x12_4 x15_5 ji42 (wrap64 (x95_5 + 1))) = some r := by rw [if_neg (show ¬ (false = true) by decide)] at H; exact H
                                                clear H
                                                have H := H1
                                                clear H1
                                                have H' := Aside0.mk H
                                                clear H
                                                have p273 : 0 ≤ (x95_5 : Int) := of_decide_eq_true (by first | (with_reducible assumption) | assumption)
                                                have q273 : x95_5 < (l1.length : Int) := of_decide_eq_true (by first | (with_reducible assumption) | assumption)
                                                obtain ⟨ad273, e273, hx273_0⟩ := Kd.at_bool HR1.out x95_5 p273 q273
                                                (try rw [← Nbq46.out] at hx273_0)
                                                cases e273
                                                replace hx273_0 := (HB.out.cell (World.block_lt_of_cell? w _ hx273_0)).trans hx273_0
                                                replace p273 := eq_true p273
                                                replace q273 := eq_true q273
                                                go_wp2
                                                go_roundg k5
                                                case measure => have := HJ3.out; have := HK2.out; have := HJ27.out; have := HK4.out; have := HK5.out; omega
                                                case rel => exact ⟨(x15_5), (wrap64 (x95_5 + 1)), (by first | rfl | (simp; done) | (simp [*]; done)), (by first | rfl | (simp; done) | (simp [*]; done)), H', ⟨by have := HJ3.out; have := HK2.out; have := HJ27.out; have := HK4.out; have := HK5.out; omega⟩, ⟨by repeat (first | (with_reducible first | exact HB.out | apply below_alloc | apply pw_below_drewN | apply below_drew1) | exact HB.out)⟩⟩
                                            · rw [if_neg c45] at H
                                              exact absurd H (by simp)
                                          · rw [if_neg c44] at H
                                            exact absurd H (by simp)
                                        · rw [if_neg c43] at H
                                          have c43b0 : decide (x95_5 < ji42) = false := decide_eq_false c43
                                          (try (rw [hl7_27] at c43b0))
                                          clear c43
                                          by_cases c48 : x12_4 = x15_5
                                          · rw [if_pos c48] at H
                                            have c48b0 : (x12_4 == x15_5) = true := beq_iff_eq.mpr c48
                                            have c48b1 : (x12_4 != x15_5) = false := bne_eq_false_iff_eq.mpr c48
                                            clear c48
                                            replace H := Option.bind_eq_some_iff.mp H
                                            obtain ⟨t274, A490, H⟩ := H
                                            replace H : (some t274) = some r := H
                                            have A49 := Aside0.mk A490
                                            clear A490
                                            obtain rfl := Option.some.inj H
                                            go_wp2_with (first | (go_at_call 8; (with_reducible refine (potsherdlaw7_awake.calls k5  t274 _ A49.out).mono ?_); rintro e w50 ⟨rfl, hb⟩; have n0_ := Aside0.mk (below_step (by repeat (first | (with_reducible first | exact HB.out | apply below_alloc | apply pw_below_drewN | apply below_drew1) | exact HB.out)) hb); clear HB; have HB := n0_; clear n0_; (try clear hb); (try clear hb2); (try clear hk); (try clear hi)))
                                            go_ret
                                            exact ⟨by first | rfl | (simp [errW_none, errW_some] <;> rfl) | (simp only [← hji23, ← hji42]; first | rfl | (simp [errW_none, errW_some] <;> rfl)) | (simp [*, errW_none, errW_some] <;> rfl), by repeat (first | (with_reducible first | exact HB.out | apply below_alloc | apply pw_below_drewN | apply below_drew1) | exact HB.out)⟩
                                          · rw [if_neg c48] at H
                                            have c48b0 : (x12_4 == x15_5) = false := beq_eq_false_iff_ne.mpr c48
                                            have c48b1 : (x12_4 != x15_5) = true := bne_iff_ne.mpr c48
                                            obtain rfl := Option.some.inj H
                                            go_wp2
                                            go_ret
                                            exact ⟨by first | rfl | (simp [errW_none, errW_some] <;> rfl) | (simp only [← hji23, ← hji42]; first | rfl | (simp [errW_none, errW_some] <;> rfl)) | (simp [*, errW_none, errW_some] <;> rfl), by repeat (first | (with_reducible first | exact HB.out | apply below_alloc | apply pw_below_drewN | apply below_drew1) | exact HB.out)⟩
                      · rw [if_neg c25] at H
                        exact absurd H (by simp)
                    · rw [if_neg c24] at H
                      exact absurd H (by simp)
          · rw [if_neg c11] at H
            exact absurd H (by simp)
        · rw [if_neg c10] at H
          exact absurd H (by simp)

-- NOT PRINTED: function 6 (potsherdlaw7_WearLooks)

end Go.Proofs.Ytdjcmefnnhfhpaa.PAll
