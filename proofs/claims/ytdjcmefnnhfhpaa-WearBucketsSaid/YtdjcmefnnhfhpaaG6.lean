/-  Began as a tool's text over an altered copy of the translation (NOTES.md); wear.looked and awake are proved by hand. -/
import Derived.Test.YtdjcmefnnhfhpaaG0
import Derived.Test.YtdjcmefnnhfhpaaG1
import Derived.Test.YtdjcmefnnhfhpaaG2b
namespace Go.Proofs.Ytdjcmefnnhfhpaa.PAll
open Go.RowKit Go.Proofs.YtdjcmefnnhfhpaaW.PrintWords Go.Proofs.YtdjcmefnnhfhpaaW.PrintLast Go.Proofs.YtdjcmefnnhfhpaaW.PrintMore
attribute [local go_sem] max2_int min2_int max_two min_two max_three min_three max_four min_four   -- for this text's walks alone
set_option linter.unusedVariables false
set_option linter.unusedSimpArgs false

/-! ### potsherdlaw7_WearBuckets: function 7 -/
mutual
def potsherdlaw7_WearBuckets.j0 : Nat → List Int → Int → Bool → Option (Bool)
  | 0, _, _, _ => none
  | k + 1, x0, x1, x22 => if x22 = true then ((potsherdlaw7_awake.f k).bind fun t309 => (some t309)) else (if 0 ≤ (x0.length : Int) then (if ((x0.length : Int) : Int).toNat ≤ 35184372088832 then (potsherdlaw7_WearBuckets.l0 k x1 (List.replicate ((x0.length : Int) : Int).toNat 0) x0 (x0.length : Int) 0) else (none)) else (none))
def potsherdlaw7_WearBuckets.l0 : Nat → Int → List Int → List Int → Int → Int → Option (Bool)
  | 0, _, _, _, _, _ => none
  | k + 1, x1, x5, x27, x28, x29 => if x29 < x28 then (if 0 ≤ x29 then (if x29 < (x27.length : Int) then (if x29 < (x5.length : Int) then (potsherdlaw7_WearBuckets.l0 k x1 (x5.set (x29 : Int).toNat (wrap64 (Int.tmod (IntKind.u64.wrap (rd x27 x29)) 30))) x27 x28 (wrap64 (x29 + 1))) else (none)) else (none)) else (none)) else ((potsherdlaw7_all.f k (x5.length : Int)).bind fun t315 => ((wear_Buckets.f k x5 t315).bind fun t318 => ((potsherdlaw7_all.f k (x5.length : Int)).bind fun t321 => ((wear_Ends.f k x5 t321).bind fun bt324 => (if (t318.length : Int) = (wrap64 ((wrap64 (bt324.2 - bt324.1)) + 1)) then (if 0 < (t318.length : Int) then (if (rd t318 0) < 1 then (potsherdlaw7_WearBuckets.j2 k x1 x5 t318 bt324.1 bt324.2 true) else (if 0 ≤ (wrap64 ((t318.length : Int) - 1)) then (if (wrap64 ((t318.length : Int) - 1)) < (t318.length : Int) then (potsherdlaw7_WearBuckets.j2 k x1 x5 t318 bt324.1 bt324.2 (decide ((rd t318 (wrap64 ((t318.length : Int) - 1))) < 1))) else (none)) else (none))) else (none)) else (potsherdlaw7_WearBuckets.j2 k x1 x5 t318 bt324.1 bt324.2 true))))))
def potsherdlaw7_WearBuckets.j2 : Nat → Int → List Int → List Int → Int → Int → Bool → Option (Bool)
  | 0, _, _, _, _, _, _ => none
  | k + 1, x1, x5, x8, x9, x10, x76 => if x76 = true then (some false) else (if (IntKind.u64.wrap ((x5.length : Int))) = 0 then (none) else (if 0 ≤ (wrap64 (Int.tmod (IntKind.u64.wrap (x1)) (IntKind.u64.wrap ((x5.length : Int))))) then (if (wrap64 (Int.tmod (IntKind.u64.wrap (x1)) (IntKind.u64.wrap ((x5.length : Int))))) < (x5.length : Int) then (if (rd x5 (wrap64 (Int.tmod (IntKind.u64.wrap (x1)) (IntKind.u64.wrap ((x5.length : Int)))))) = x10 then (potsherdlaw7_WearBuckets.j3 k (wrap64 (Int.tmod (IntKind.u64.wrap (x1)) (IntKind.u64.wrap ((x5.length : Int))))) x5 x8 x9 true) else (if (rd x5 (wrap64 (Int.tmod (IntKind.u64.wrap (x1)) (IntKind.u64.wrap ((x5.length : Int)))))) = x9 then (if 0 < (x8.length : Int) then (potsherdlaw7_WearBuckets.j3 k (wrap64 (Int.tmod (IntKind.u64.wrap (x1)) (IntKind.u64.wrap ((x5.length : Int))))) x5 x8 x9 ((rd x8 0) == 1)) else (none)) else (potsherdlaw7_WearBuckets.j3 k (wrap64 (Int.tmod (IntKind.u64.wrap (x1)) (IntKind.u64.wrap ((x5.length : Int))))) x5 x8 x9 false))) else (none)) else (none)))
def potsherdlaw7_WearBuckets.j3 : Nat → Int → List Int → List Int → Int → Bool → Option (Bool)
  | 0, _, _, _, _, _ => none
  | k + 1, x1, x5, x8, x9, x103 => if x103 = true then ((potsherdlaw7_awake.f k).bind fun t331 => (some t331)) else (if 0 ≤ x1 then (if x1 < (x5.length : Int) then ((potsherdlaw7_all.f k (x5.length : Int)).bind fun t335 => ((wear_Buckets.f k (x5.set (x1 : Int).toNat (wrap64 ((rd x5 x1) + 1))) t335).bind fun t338 => (if (t338.length : Int) = (x8.length : Int) then (if (wrap64 ((rd x5 x1) - x9)) < 0 then (potsherdlaw7_WearBuckets.j4 k x8 (wrap64 ((rd x5 x1) - x9)) t338 true) else (potsherdlaw7_WearBuckets.j4 k x8 (wrap64 ((rd x5 x1) - x9)) t338 (decide ((wrap64 ((wrap64 ((rd x5 x1) - x9)) + 1)) ≥ (x8.length : Int))))) else (potsherdlaw7_WearBuckets.j4 k x8 (wrap64 ((rd x5 x1) - x9)) t338 true)))) else (none)) else (none))
def potsherdlaw7_WearBuckets.j4 : Nat → List Int → Int → List Int → Bool → Option (Bool)
  | 0, _, _, _, _ => none
  | k + 1, x8, x11, x12, x137 => if x137 = true then (some false) else (potsherdlaw7_WearBuckets.l1 k x8 x11 x12 (x8.length : Int) 0)
def potsherdlaw7_WearBuckets.l1 : Nat → List Int → Int → List Int → Int → Int → Option (Bool)
  | 0, _, _, _, _, _ => none
  | k + 1, x8, x11, x12, x139, x140 => if x140 < x139 then (if 0 ≤ x140 then (if x140 < (x8.length : Int) then (if x140 = x11 then (potsherdlaw7_WearBuckets.j6 k x8 x11 x12 x140 (wrap64 ((rd x8 x140) - 1)) x139 x140) else (potsherdlaw7_WearBuckets.j6 k x8 x11 x12 x140 (rd x8 x140) x139 x140)) else (none)) else (none)) else ((potsherdlaw7_awake.f k).bind fun t341 => (some t341))
def potsherdlaw7_WearBuckets.j6 : Nat → List Int → Int → List Int → Int → Int → Int → Int → Option (Bool)
  | 0, _, _, _, _, _, _, _ => none
  | k + 1, x8, x11, x12, x13, x14, x139, x140 => if x13 = (wrap64 (x11 + 1)) then (if 0 ≤ x13 then (if x13 < (x12.length : Int) then (if (rd x12 x13) = (wrap64 (x14 + 1)) then (potsherdlaw7_WearBuckets.l1 k x8 x11 x12 x139 (wrap64 (x140 + 1))) else (some false)) else (none)) else (none)) else (if 0 ≤ x13 then (if x13 < (x12.length : Int) then (if (rd x12 x13) = x14 then (potsherdlaw7_WearBuckets.l1 k x8 x11 x12 x139 (wrap64 (x140 + 1))) else (some false)) else (none)) else (none))
end
def potsherdlaw7_WearBuckets.f (k : Nat) (l0 : List Int) (a1 : Int) : Option (Bool) := if (l0.length : Int) < 1 then (potsherdlaw7_WearBuckets.j0 k l0 a1 true) else (potsherdlaw7_WearBuckets.j0 k l0 a1 (decide ((l0.length : Int) > 60)))
theorem potsherdlaw7_WearBuckets.mono_l : ∀ k, (∀ y0 y1 y2, LeO (potsherdlaw7_WearBuckets.j0 k y0 y1 y2) (potsherdlaw7_WearBuckets.j0 (k + 1) y0 y1 y2)) ∧ (∀ y0 y1 y2 y3 y4, LeO (potsherdlaw7_WearBuckets.l0 k y0 y1 y2 y3 y4) (potsherdlaw7_WearBuckets.l0 (k + 1) y0 y1 y2 y3 y4)) ∧ (∀ y0 y1 y2 y3 y4 y5, LeO (potsherdlaw7_WearBuckets.j2 k y0 y1 y2 y3 y4 y5) (potsherdlaw7_WearBuckets.j2 (k + 1) y0 y1 y2 y3 y4 y5)) ∧ (∀ y0 y1 y2 y3 y4, LeO (potsherdlaw7_WearBuckets.j3 k y0 y1 y2 y3 y4) (potsherdlaw7_WearBuckets.j3 (k + 1) y0 y1 y2 y3 y4)) ∧ (∀ y0 y1 y2 y3, LeO (potsherdlaw7_WearBuckets.j4 k y0 y1 y2 y3) (potsherdlaw7_WearBuckets.j4 (k + 1) y0 y1 y2 y3)) ∧ (∀ y0 y1 y2 y3 y4, LeO (potsherdlaw7_WearBuckets.l1 k y0 y1 y2 y3 y4) (potsherdlaw7_WearBuckets.l1 (k + 1) y0 y1 y2 y3 y4)) ∧ (∀ y0 y1 y2 y3 y4 y5 y6, LeO (potsherdlaw7_WearBuckets.j6 k y0 y1 y2 y3 y4 y5 y6) (potsherdlaw7_WearBuckets.j6 (k + 1) y0 y1 y2 y3 y4 y5 y6))
  | 0 => ⟨fun _ _ _ r h => by simp [potsherdlaw7_WearBuckets.j0] at h, fun _ _ _ _ _ r h => by simp [potsherdlaw7_WearBuckets.l0] at h, fun _ _ _ _ _ _ r h => by simp [potsherdlaw7_WearBuckets.j2] at h, fun _ _ _ _ _ r h => by simp [potsherdlaw7_WearBuckets.j3] at h, fun _ _ _ _ r h => by simp [potsherdlaw7_WearBuckets.j4] at h, fun _ _ _ _ _ r h => by simp [potsherdlaw7_WearBuckets.l1] at h, fun _ _ _ _ _ _ _ r h => by simp [potsherdlaw7_WearBuckets.j6] at h⟩
  | k + 1 => by
    obtain ⟨ih0, ih1, ih2, ih3, ih4, ih5, ih6⟩ := potsherdlaw7_WearBuckets.mono_l k
    refine ⟨?_, ?_, ?_, ?_, ?_, ?_, ?_⟩
    · intro y0 y1 y2
      unfold potsherdlaw7_WearBuckets.j0
      repeat' first
      | (with_reducible exact ih0 _ _ _)
      | (with_reducible exact ih1 _ _ _ _ _)
      | (with_reducible exact ih2 _ _ _ _ _ _)
      | (with_reducible exact ih3 _ _ _ _ _)
      | (with_reducible exact ih4 _ _ _ _)
      | (with_reducible exact ih5 _ _ _ _ _)
      | (with_reducible exact ih6 _ _ _ _ _ _ _)
      | (with_reducible exact potsherdlaw7_all.mono _ _)
      | (with_reducible exact potsherdlaw7_awake.mono _)
      | (with_reducible exact wear_Buckets.mono _ _ _)
      | (with_reducible exact wear_Ends.mono _ _ _)
      | (with_reducible exact LeO.refl _)
      | (with_reducible exact LeO.none _)
      | (with_reducible refine LeO.ite ?_ ?_)
      | (with_reducible refine LeO.bind ?_ (fun _ => ?_))
      | exact ih0 _ _ _
      | exact ih1 _ _ _ _ _
      | exact ih2 _ _ _ _ _ _
      | exact ih3 _ _ _ _ _
      | exact ih4 _ _ _ _
      | exact ih5 _ _ _ _ _
      | exact ih6 _ _ _ _ _ _ _
      | exact potsherdlaw7_all.mono _ _
      | exact potsherdlaw7_awake.mono _
      | exact wear_Buckets.mono _ _ _
      | exact wear_Ends.mono _ _ _
      | exact LeO.none _
      | refine LeO.ite ?_ ?_
      | refine LeO.bind ?_ (fun _ => ?_)
    · intro y0 y1 y2 y3 y4
      unfold potsherdlaw7_WearBuckets.l0
      repeat' first
      | (with_reducible exact ih0 _ _ _)
      | (with_reducible exact ih1 _ _ _ _ _)
      | (with_reducible exact ih2 _ _ _ _ _ _)
      | (with_reducible exact ih3 _ _ _ _ _)
      | (with_reducible exact ih4 _ _ _ _)
      | (with_reducible exact ih5 _ _ _ _ _)
      | (with_reducible exact ih6 _ _ _ _ _ _ _)
      | (with_reducible exact potsherdlaw7_all.mono _ _)
      | (with_reducible exact potsherdlaw7_awake.mono _)
      | (with_reducible exact wear_Buckets.mono _ _ _)
      | (with_reducible exact wear_Ends.mono _ _ _)
      | (with_reducible exact LeO.refl _)
      | (with_reducible exact LeO.none _)
      | (with_reducible refine LeO.ite ?_ ?_)
      | (with_reducible refine LeO.bind ?_ (fun _ => ?_))
      | exact ih0 _ _ _
      | exact ih1 _ _ _ _ _
      | exact ih2 _ _ _ _ _ _
      | exact ih3 _ _ _ _ _
      | exact ih4 _ _ _ _
      | exact ih5 _ _ _ _ _
      | exact ih6 _ _ _ _ _ _ _
      | exact potsherdlaw7_all.mono _ _
      | exact potsherdlaw7_awake.mono _
      | exact wear_Buckets.mono _ _ _
      | exact wear_Ends.mono _ _ _
      | exact LeO.none _
      | refine LeO.ite ?_ ?_
      | refine LeO.bind ?_ (fun _ => ?_)
    · intro y0 y1 y2 y3 y4 y5
      unfold potsherdlaw7_WearBuckets.j2
      repeat' first
      | (with_reducible exact ih0 _ _ _)
      | (with_reducible exact ih1 _ _ _ _ _)
      | (with_reducible exact ih2 _ _ _ _ _ _)
      | (with_reducible exact ih3 _ _ _ _ _)
      | (with_reducible exact ih4 _ _ _ _)
      | (with_reducible exact ih5 _ _ _ _ _)
      | (with_reducible exact ih6 _ _ _ _ _ _ _)
      | (with_reducible exact potsherdlaw7_all.mono _ _)
      | (with_reducible exact potsherdlaw7_awake.mono _)
      | (with_reducible exact wear_Buckets.mono _ _ _)
      | (with_reducible exact wear_Ends.mono _ _ _)
      | (with_reducible exact LeO.refl _)
      | (with_reducible exact LeO.none _)
      | (with_reducible refine LeO.ite ?_ ?_)
      | (with_reducible refine LeO.bind ?_ (fun _ => ?_))
      | exact ih0 _ _ _
      | exact ih1 _ _ _ _ _
      | exact ih2 _ _ _ _ _ _
      | exact ih3 _ _ _ _ _
      | exact ih4 _ _ _ _
      | exact ih5 _ _ _ _ _
      | exact ih6 _ _ _ _ _ _ _
      | exact potsherdlaw7_all.mono _ _
      | exact potsherdlaw7_awake.mono _
      | exact wear_Buckets.mono _ _ _
      | exact wear_Ends.mono _ _ _
      | exact LeO.none _
      | refine LeO.ite ?_ ?_
      | refine LeO.bind ?_ (fun _ => ?_)
    · intro y0 y1 y2 y3 y4
      unfold potsherdlaw7_WearBuckets.j3
      repeat' first
      | (with_reducible exact ih0 _ _ _)
      | (with_reducible exact ih1 _ _ _ _ _)
      | (with_reducible exact ih2 _ _ _ _ _ _)
      | (with_reducible exact ih3 _ _ _ _ _)
      | (with_reducible exact ih4 _ _ _ _)
      | (with_reducible exact ih5 _ _ _ _ _)
      | (with_reducible exact ih6 _ _ _ _ _ _ _)
      | (with_reducible exact potsherdlaw7_all.mono _ _)
      | (with_reducible exact potsherdlaw7_awake.mono _)
      | (with_reducible exact wear_Buckets.mono _ _ _)
      | (with_reducible exact wear_Ends.mono _ _ _)
      | (with_reducible exact LeO.refl _)
      | (with_reducible exact LeO.none _)
      | (with_reducible refine LeO.ite ?_ ?_)
      | (with_reducible refine LeO.bind ?_ (fun _ => ?_))
      | exact ih0 _ _ _
      | exact ih1 _ _ _ _ _
      | exact ih2 _ _ _ _ _ _
      | exact ih3 _ _ _ _ _
      | exact ih4 _ _ _ _
      | exact ih5 _ _ _ _ _
      | exact ih6 _ _ _ _ _ _ _
      | exact potsherdlaw7_all.mono _ _
      | exact potsherdlaw7_awake.mono _
      | exact wear_Buckets.mono _ _ _
      | exact wear_Ends.mono _ _ _
      | exact LeO.none _
      | refine LeO.ite ?_ ?_
      | refine LeO.bind ?_ (fun _ => ?_)
    · intro y0 y1 y2 y3
      unfold potsherdlaw7_WearBuckets.j4
      repeat' first
      | (with_reducible exact ih0 _ _ _)
      | (with_reducible exact ih1 _ _ _ _ _)
      | (with_reducible exact ih2 _ _ _ _ _ _)
      | (with_reducible exact ih3 _ _ _ _ _)
      | (with_reducible exact ih4 _ _ _ _)
      | (with_reducible exact ih5 _ _ _ _ _)
      | (with_reducible exact ih6 _ _ _ _ _ _ _)
      | (with_reducible exact potsherdlaw7_all.mono _ _)
      | (with_reducible exact potsherdlaw7_awake.mono _)
      | (with_reducible exact wear_Buckets.mono _ _ _)
      | (with_reducible exact wear_Ends.mono _ _ _)
      | (with_reducible exact LeO.refl _)
      | (with_reducible exact LeO.none _)
      | (with_reducible refine LeO.ite ?_ ?_)
      | (with_reducible refine LeO.bind ?_ (fun _ => ?_))
      | exact ih0 _ _ _
      | exact ih1 _ _ _ _ _
      | exact ih2 _ _ _ _ _ _
      | exact ih3 _ _ _ _ _
      | exact ih4 _ _ _ _
      | exact ih5 _ _ _ _ _
      | exact ih6 _ _ _ _ _ _ _
      | exact potsherdlaw7_all.mono _ _
      | exact potsherdlaw7_awake.mono _
      | exact wear_Buckets.mono _ _ _
      | exact wear_Ends.mono _ _ _
      | exact LeO.none _
      | refine LeO.ite ?_ ?_
      | refine LeO.bind ?_ (fun _ => ?_)
    · intro y0 y1 y2 y3 y4
      unfold potsherdlaw7_WearBuckets.l1
      repeat' first
      | (with_reducible exact ih0 _ _ _)
      | (with_reducible exact ih1 _ _ _ _ _)
      | (with_reducible exact ih2 _ _ _ _ _ _)
      | (with_reducible exact ih3 _ _ _ _ _)
      | (with_reducible exact ih4 _ _ _ _)
      | (with_reducible exact ih5 _ _ _ _ _)
      | (with_reducible exact ih6 _ _ _ _ _ _ _)
      | (with_reducible exact potsherdlaw7_all.mono _ _)
      | (with_reducible exact potsherdlaw7_awake.mono _)
      | (with_reducible exact wear_Buckets.mono _ _ _)
      | (with_reducible exact wear_Ends.mono _ _ _)
      | (with_reducible exact LeO.refl _)
      | (with_reducible exact LeO.none _)
      | (with_reducible refine LeO.ite ?_ ?_)
      | (with_reducible refine LeO.bind ?_ (fun _ => ?_))
      | exact ih0 _ _ _
      | exact ih1 _ _ _ _ _
      | exact ih2 _ _ _ _ _ _
      | exact ih3 _ _ _ _ _
      | exact ih4 _ _ _ _
      | exact ih5 _ _ _ _ _
      | exact ih6 _ _ _ _ _ _ _
      | exact potsherdlaw7_all.mono _ _
      | exact potsherdlaw7_awake.mono _
      | exact wear_Buckets.mono _ _ _
      | exact wear_Ends.mono _ _ _
      | exact LeO.none _
      | refine LeO.ite ?_ ?_
      | refine LeO.bind ?_ (fun _ => ?_)
    · intro y0 y1 y2 y3 y4 y5 y6
      unfold potsherdlaw7_WearBuckets.j6
      repeat' first
      | (with_reducible exact ih0 _ _ _)
      | (with_reducible exact ih1 _ _ _ _ _)
      | (with_reducible exact ih2 _ _ _ _ _ _)
      | (with_reducible exact ih3 _ _ _ _ _)
      | (with_reducible exact ih4 _ _ _ _)
      | (with_reducible exact ih5 _ _ _ _ _)
      | (with_reducible exact ih6 _ _ _ _ _ _ _)
      | (with_reducible exact potsherdlaw7_all.mono _ _)
      | (with_reducible exact potsherdlaw7_awake.mono _)
      | (with_reducible exact wear_Buckets.mono _ _ _)
      | (with_reducible exact wear_Ends.mono _ _ _)
      | (with_reducible exact LeO.refl _)
      | (with_reducible exact LeO.none _)
      | (with_reducible refine LeO.ite ?_ ?_)
      | (with_reducible refine LeO.bind ?_ (fun _ => ?_))
      | exact ih0 _ _ _
      | exact ih1 _ _ _ _ _
      | exact ih2 _ _ _ _ _ _
      | exact ih3 _ _ _ _ _
      | exact ih4 _ _ _ _
      | exact ih5 _ _ _ _ _
      | exact ih6 _ _ _ _ _ _ _
      | exact potsherdlaw7_all.mono _ _
      | exact potsherdlaw7_awake.mono _
      | exact wear_Buckets.mono _ _ _
      | exact wear_Ends.mono _ _ _
      | exact LeO.none _
      | refine LeO.ite ?_ ?_
      | refine LeO.bind ?_ (fun _ => ?_)
theorem potsherdlaw7_WearBuckets.mono : ∀ a0 a1 k, LeO (potsherdlaw7_WearBuckets.f k a0 a1) (potsherdlaw7_WearBuckets.f (k + 1) a0 a1) := by
  intro a0 a1 k
  obtain ⟨ih0, ih1, ih2, ih3, ih4, ih5, ih6⟩ := potsherdlaw7_WearBuckets.mono_l k
  unfold potsherdlaw7_WearBuckets.f
  repeat' first
      | (with_reducible exact ih0 _ _ _)
      | (with_reducible exact ih1 _ _ _ _ _)
      | (with_reducible exact ih2 _ _ _ _ _ _)
      | (with_reducible exact ih3 _ _ _ _ _)
      | (with_reducible exact ih4 _ _ _ _)
      | (with_reducible exact ih5 _ _ _ _ _)
      | (with_reducible exact ih6 _ _ _ _ _ _ _)
      | (with_reducible exact potsherdlaw7_all.mono _ _)
      | (with_reducible exact potsherdlaw7_awake.mono _)
      | (with_reducible exact wear_Buckets.mono _ _ _)
      | (with_reducible exact wear_Ends.mono _ _ _)
      | (with_reducible exact LeO.refl _)
      | (with_reducible exact LeO.none _)
      | (with_reducible refine LeO.ite ?_ ?_)
      | (with_reducible refine LeO.bind ?_ (fun _ => ?_))
      | exact ih0 _ _ _
      | exact ih1 _ _ _ _ _
      | exact ih2 _ _ _ _ _ _
      | exact ih3 _ _ _ _ _
      | exact ih4 _ _ _ _
      | exact ih5 _ _ _ _ _
      | exact ih6 _ _ _ _ _ _ _
      | exact potsherdlaw7_all.mono _ _
      | exact potsherdlaw7_awake.mono _
      | exact wear_Buckets.mono _ _ _
      | exact wear_Ends.mono _ _ _
      | exact LeO.none _
      | refine LeO.ite ?_ ?_
      | refine LeO.bind ?_ (fun _ => ?_)
set_option maxHeartbeats 8000000 in
set_option maxRecDepth 100000 in
theorem potsherdlaw7_WearBuckets.calls (k : Nat) (A0 : Option Addr) (c0 : Nat) (l0 : List Int) (a1 : Int) (r : Bool) (w : World) (hr0 : Kd.C (Kd.int .i64) w A0 l0.length l0) (hc0 : l0.length ≤ c0) (h : potsherdlaw7_WearBuckets.f k l0 a1 = some r) :
    Calls Try.prog 7 #[.slice A0 l0.length c0, .int .i64 a1] w fun e w' => e = .returned (.bool r) ∧ Below w.heap.size w w' := by
  have HR0 := Aside0.mk hr0
  have HC0 := Aside0.mk hc0
  clear hr0 hc0
  have HB := Aside0.mk (Below.refl w.heap.size w)
  have H : (if (l0.length : Int) < 1 then (potsherdlaw7_WearBuckets.j0 k l0 a1 true) else (potsherdlaw7_WearBuckets.j0 k l0 a1 (decide ((l0.length : Int) > 60)))) = some r := h
  clear h
  have HC3 := Aside0.mk H
  clear H
  go_enter Try.func7, Try.ntmps7
  go_upto_region 1 with (fail)
  go_cut [22] (fun v22 wc => ∃ (kq : Nat) (x22_2 : Bool), v22 = .bool x22_2 ∧ Aside0 (potsherdlaw7_WearBuckets.j0 kq l0 a1 x22_2 = some r) ∧ Aside0 (kq ≤ k) ∧ Aside0 (Below w.heap.size w wc))
  case first =>
    have H := HC3.out
    clear HC3
    by_cases c4 : (l0.length : Int) < 1
    · rw [if_pos c4] at H
      have c4b0 : decide ((l0.length : Int) < 1) = true := decide_eq_true c4
      have c4b1 : decide (l0.length < 1) = true := decide_eq_true (by omega)
      clear c4
      (first | rw [c4b0] | (simp only [i64_w, i32_w]; rw [c4b0]) | skip)
      have H' := Aside0.mk H
      clear H
      go_wp2
      go_meet
      case rel => exact ⟨_, (true), (by first | rfl | (simp; done) | (simp [*]; done)), H', ⟨by first | omega | exact Nat.le_refl _⟩, ⟨by repeat (first | (with_reducible first | exact HB.out | apply below_alloc | apply pw_below_drewN | apply below_drew1) | exact HB.out)⟩⟩
    · rw [if_neg c4] at H
      have c4b0 : decide ((l0.length : Int) < 1) = false := decide_eq_false c4
      have c4b1 : decide (l0.length < 1) = false := decide_eq_false (by omega)
      clear c4
      (first | rw [c4b0] | (simp only [i64_w, i32_w]; rw [c4b0]) | skip)
      have H' := Aside0.mk H
      clear H
      go_wp2
      go_meet
      case rel => exact ⟨_, (decide ((l0.length : Int) > 60)), (by first | rfl | (simp; done) | (simp [*]; done)), H', ⟨by first | omega | exact Nat.le_refl _⟩, ⟨by repeat (first | (with_reducible first | exact HB.out | apply below_alloc | apply pw_below_drewN | apply below_drew1) | exact HB.out)⟩⟩
  case rest =>
    clear HC3
    try clear p2
    try clear c4
    try clear c4b0
    try clear c4b1
    obtain ⟨kq, x22_2, rfl, HA, HJ2, HB⟩ := hcut
    cases kq with
    | zero => exact absurd HA.out (by simp [potsherdlaw7_WearBuckets.j0])
    | succ kj2 =>
      have H := HA.out
      clear HA
      simp only [potsherdlaw7_WearBuckets.j0] at H
      by_cases c5 : x22_2 = true
      · subst c5
        have H1 : ((potsherdlaw7_awake.f kj2).bind fun t309 => (some t309)) = some r := by rw [if_pos rfl] at H; exact H
        clear H
        have H := H1
        clear H1
        replace H := Option.bind_eq_some_iff.mp H
        obtain ⟨t309, A60, H⟩ := H
        replace H : (some t309) = some r := H
        have A6 := Aside0.mk A60
        clear A60
        obtain rfl := Option.some.inj H
        go_wp2_with (first | ((with_reducible refine gate_callee (f := 8) rfl ?_); refine goesL_ (some 23) rfl rfl Try.func8 (by kernel_rfl) rfl #[] rfl (by (try simp only [List.map_toArray, List.map_cons, List.map_nil]); first | done | rfl | (simp only [List.length_drop, List.length_take]; rfl)) ?_; (with_reducible refine (potsherdlaw7_awake.calls kj2  t309 _ A6.out).mono ?_); rintro e w7 ⟨rfl, hb⟩; refine ⟨_, rfl, ?_⟩; have n0_ := Aside0.mk (below_step (by repeat (first | (with_reducible first | exact HB.out | apply below_alloc | apply pw_below_drewN | apply below_drew1) | exact HB.out)) hb); clear HB; have HB := n0_; clear n0_; (try clear hb); (try clear hb2); (try clear hk); (try clear hi)))
        go_ret
        exact ⟨by first | rfl | (simp [errW_none, errW_some] <;> rfl) | (simp [*, errW_none, errW_some] <;> rfl), by repeat (first | (with_reducible first | exact HB.out | apply below_alloc | apply pw_below_drewN | apply below_drew1) | exact HB.out)⟩
      · replace c5 := Bool.eq_false_iff.mpr c5
        subst c5
        have H1 : (if 0 ≤ (l0.length : Int) then (if ((l0.length : Int) : Int).toNat ≤ 35184372088832 then (potsherdlaw7_WearBuckets.l0 kj2 a1 (List.replicate ((l0.length : Int) : Int).toNat 0) l0 (l0.length : Int) 0) else (none)) else (none)) = some r := by rw [if_neg (show ¬ (false = true) by decide)] at H; exact H
        clear H
        have H := H1
        clear H1
        by_cases c8 : 0 ≤ (l0.length : Int)
        · rw [if_pos c8] at H
          have c8b0 := eq_true c8
          have c8b1 : decide (0 ≤ (l0.length : Int)) = true := decide_eq_true c8
          clear c8
          by_cases c9 : ((l0.length : Int) : Int).toNat ≤ 35184372088832
          · rw [if_pos c9] at H
            have c9b0 := eq_true c9
            have c9b1 : decide (((l0.length : Int) : Int).toNat ≤ 35184372088832) = true := decide_eq_true c9
            clear c9
            obtain ⟨y310, hy310⟩ : ∃ y_ : List Int, y_ = (List.replicate ((l0.length : Int) : Int).toNat 0) := ⟨_, rfl⟩
            replace H : (potsherdlaw7_WearBuckets.l0 kj2 a1 y310 l0 (l0.length : Int) 0) = some r := by first | (rw [hy310]; with_reducible exact H) | (have H2_ := (Option.bind_some _ _).symm.trans H; rw [hy310]; with_reducible exact H2_) | (have H2_ := (Option.bind_some _ _).symm.trans H; with_reducible exact H2_) | with_reducible exact H | (rw [hy310]; exact H) | exact H
            have Ny310 := Aside0.mk hy310
            clear hy310
            have H' := Aside0.mk H
            clear H
            go_wp2_with (first | ((with_reducible refine gate_dst (N := 26) rfl ?_); (try (refine gate_guard (by rfl) ?_; dsimp only)); refine Kd.R_make (Kd.int .i64) _ 3 rfl (N := 26) rfl 22 _ _ rfl (l0.length : Int) rfl rfl Try.underlying22 (.int .i64 0) 8 info3 rfl (by decide) (by omega) 0 (ok := fun _ => True) (okp := fun _ => True) rfl (fun _ hk => hk) trivial (of_decide_eq_true (by first | (with_reducible assumption) | assumption)) (Nat.le_trans (Nat.mul_le_mul_right _ (of_decide_eq_true (by first | (with_reducible assumption) | assumption) : (l0.length : Int).toNat ≤ 35184372088832)) (by omega)) (Below.refl _ _) (Nat.le_refl _) ?_; intro v311 w10 ho11 hb hg_ hnew_; clear hg_ hnew_; (first | rw [← Ny310.out] at ho11 | (simp only [Int.reduceToNat] at ho11; rw [← Ny310.out] at ho11)); have n0_ := Aside0.mk (Kd.R_lower ho11 (below_size (by repeat (first | (with_reducible first | exact HB.out | apply below_alloc | apply pw_below_drewN | apply below_drew1) | exact HB.out)))); have n1_ := Aside0.mk (below_step (by repeat (first | (with_reducible first | exact HB.out | apply below_alloc | apply pw_below_drewN | apply below_drew1) | exact HB.out)) hb); clear HB; have HO312 := n0_; have HB := n1_; clear n0_ n1_; clear hb ho11))
            go_loopg [29] kj2 (fun kq v29 w' => ∃ (x5_2 : List Int) (x29_2 : Int), v29 = .int .i64 x29_2 ∧ Aside0 (potsherdlaw7_WearBuckets.l0 kq a1 x5_2 l0 (l0.length : Int) x29_2 = some r) ∧ Aside0 (kq ≤ kj2) ∧ Aside0 (Kd.R (Kd.int .i64) 3 w' w.heap.size (fun _ => True) v311 x5_2) ∧ Aside0 (Below w.heap.size w w'))
            case atStart => exact ⟨(y310), (0), (by first | rfl | (simp; done) | (simp [*]; done)), H', ⟨Nat.le_refl _⟩, ⟨by (with_reducible repeat (first | apply Kd.R_alloc | apply Kd.R_drewN | apply Kd.R_drew)); exact HO312.out⟩, ⟨by repeat (first | (with_reducible first | exact HB.out | apply below_alloc | apply pw_below_drewN | apply below_drew1) | exact HB.out)⟩⟩
            case round =>
              clear H'
              try clear p2
              try clear c4
              try clear c4b0
              try clear c4b1
              try clear c5
              try clear c7
              try clear c8
              try clear c8b0
              try clear c8b1
              try clear c9
              try clear c9b0
              try clear c9b1
              try clear p2
              obtain ⟨x5_2, x29_2, rfl, HA, HK2, HO_5, HB⟩ := hrel
              cases gk with
              | zero => exact absurd HA.out (by simp [potsherdlaw7_WearBuckets.l0])
              | succ k2 =>
                have H := HA.out
                clear HA
                simp only [potsherdlaw7_WearBuckets.l0] at H
                by_cases c12 : x29_2 < (l0.length : Int)
                · rw [if_pos c12] at H
                  have c12b0 : decide (x29_2 < (l0.length : Int)) = true := decide_eq_true c12
                  clear c12
                  by_cases c13 : 0 ≤ x29_2
                  · rw [if_pos c13] at H
                    have c13b0 : decide (0 ≤ x29_2) = true := decide_eq_true c13
                    clear c13
                    by_cases c14 : x29_2 < (l0.length : Int)
                    · rw [if_pos c14] at H
                      have c14b0 : decide (x29_2 < (l0.length : Int)) = true := decide_eq_true c14
                      clear c14
                      by_cases c15 : x29_2 < (x5_2.length : Int)
                      · rw [if_pos c15] at H
                        have c15b0 : decide (x29_2 < (x5_2.length : Int)) = true := decide_eq_true c15
                        clear c15
                        obtain ⟨y314, hy314⟩ : ∃ y_ : List Int, y_ = (x5_2.set (x29_2 : Int).toNat (wrap64 (Int.tmod (IntKind.u64.wrap (rd l0 x29_2)) 30))) := ⟨_, rfl⟩
                        replace H : (potsherdlaw7_WearBuckets.l0 k2 a1 y314 l0 (l0.length : Int) (wrap64 (x29_2 + 1))) = some r := by first | (rw [hy314]; with_reducible exact H) | (have H2_ := (Option.bind_some _ _).symm.trans H; rw [hy314]; with_reducible exact H2_) | (have H2_ := (Option.bind_some _ _).symm.trans H; with_reducible exact H2_) | with_reducible exact H | (rw [hy314]; exact H) | exact H
                        have Ny314 := Aside0.mk hy314
                        clear hy314
                        have H' := Aside0.mk H
                        clear H
                        have p313 : 0 ≤ (x29_2 : Int) := of_decide_eq_true (by first | (with_reducible assumption) | assumption)
                        have q313 : x29_2 < (l0.length : Int) := of_decide_eq_true (by first | (with_reducible assumption) | assumption)
                        obtain ⟨ad313, e313, hx313_0⟩ := Kd.at_int HR0.out x29_2 p313 q313
                        cases e313
                        replace hx313_0 := (HB.out.cell (World.block_lt_of_cell? w _ hx313_0)).trans hx313_0
                        replace p313 := eq_true p313
                        replace q313 := eq_true q313
                        have p16 : 0 ≤ (x29_2 : Int) := of_decide_eq_true (by first | (with_reducible assumption) | assumption)
                        have q16 : (x29_2 : Int) < ((x5_2.length : Int) : Int) := of_decide_eq_true (by first | (with_reducible assumption) | assumption)
                        obtain ⟨go16, co16, eo16, gb16, gl16, cl16, HG16⟩ := Kd.R_form HO_5.out (by omega)
                        (first | cases eo16 | (injection eo16 with ea_ en_ ec_; (first | subst ea_ | (injection ea_ with ea_; subst ea_)); subst ec_; clear en_))
                        have GB16 := Aside0.mk gb16
                        have GG16 := Aside0.mk HG16
                        clear gb16 gl16 HG16
                        obtain ⟨hx16_0, hf16_0⟩ := Kd.R_celln 0 HO_5.out (x29_2 : Int) p16 q16
                        replace p16 := eq_true p16
                        replace q16 := eq_true q16
                        have HP17 := Kd.R_putg HO_5.out (x29_2 : Int) (wrap64 (Int.tmod (IntKind.u64.wrap (rd l0 x29_2)) 30))
                        go_wp2_with (first | ((with_reducible refine gate_store (t := 3) (p := 40) rfl ?_); refine store_event (t := 3) (p := 40) (v := ?vo_w18) (w1 := (wr.setCell ⟨go16, (x29_2 : Int).toNat, none⟩ (.int .i64 (wrap64 (Int.tmod (IntKind.u64.wrap (rd l0 x29_2)) 30))))) ?hg ?ho ?hn ?hr ?_; (case ho => rfl); (case hg => rfl); (case hn => rfl); (case hr => first | (go_simp; done) | (go_simp; rfl)); intro w18 hw; have hg : wr.grownBy w18 (some go16) := (by rw [hw]; exact HP17.2); have hp_ : Kd.R (Kd.int .i64) 3 w18 w.heap.size (fun _ => True) (.slice (some ⟨go16, 0, none⟩) x5_2.length co16) y314 := (by rw [hw, Ny314.out]; exact HP17.1); clear HP17; have n0_ := Aside0.mk (hp_); have n1_ := Aside0.mk ((by rw [hw]; exact below_set (HB.out) GB16.out : Below w.heap.size w w18)); clear HO_5; clear HB; have HO_5 := n0_; have HB := n1_; clear n0_ n1_; clear hg hw hp_))
                        go_roundg k2
                        case measure => have := HJ2.out; have := HK2.out; omega
                        case rel => exact ⟨(y314), (wrap64 (x29_2 + 1)), (by first | rfl | (simp; done) | (simp [*]; done)), H', ⟨by have := HJ2.out; have := HK2.out; omega⟩, ⟨by (with_reducible repeat (first | apply Kd.R_alloc | apply Kd.R_drewN | apply Kd.R_drew)); exact HO_5.out⟩, ⟨by repeat (first | (with_reducible first | exact HB.out | apply below_alloc | apply pw_below_drewN | apply below_drew1) | exact HB.out)⟩⟩
                      · rw [if_neg c15] at H
                        exact absurd H (by simp)
                    · rw [if_neg c14] at H
                      exact absurd H (by simp)
                  · rw [if_neg c13] at H
                    exact absurd H (by simp)
                · rw [if_neg c12] at H
                  have c12b0 : decide (x29_2 < (l0.length : Int)) = false := decide_eq_false c12
                  clear c12
                  replace H := Option.bind_eq_some_iff.mp H
                  obtain ⟨t315, A190, H⟩ := H
                  replace H : ((wear_Buckets.f k2 x5_2 t315).bind fun t318 => ((potsherdlaw7_all.f k2 (x5_2.length : Int)).bind fun t321 => ((wear_Ends.f k2 x5_2 t321).bind fun bt324 => (if (t318.length : Int) = (wrap64 ((wrap64 (bt324.2 - bt324.1)) + 1)) then (if 0 < (t318.length : Int) then (if (rd t318 0) < 1 then (potsherdlaw7_WearBuckets.j2 k2 a1 x5_2 t318 bt324.1 bt324.2 true) else (if 0 ≤ (wrap64 ((t318.length : Int) - 1)) then (if (wrap64 ((t318.length : Int) - 1)) < (t318.length : Int) then (potsherdlaw7_WearBuckets.j2 k2 a1 x5_2 t318 bt324.1 bt324.2 (decide ((rd t318 (wrap64 ((t318.length : Int) - 1))) < 1))) else (none)) else (none))) else (none)) else (potsherdlaw7_WearBuckets.j2 k2 a1 x5_2 t318 bt324.1 bt324.2 true))))) = some r := H
                  have A19 := Aside0.mk A190
                  clear A190
                  replace H := Option.bind_eq_some_iff.mp H
                  obtain ⟨t318, A200, H⟩ := H
                  replace H : ((potsherdlaw7_all.f k2 (x5_2.length : Int)).bind fun t321 => ((wear_Ends.f k2 x5_2 t321).bind fun bt324 => (if (t318.length : Int) = (wrap64 ((wrap64 (bt324.2 - bt324.1)) + 1)) then (if 0 < (t318.length : Int) then (if (rd t318 0) < 1 then (potsherdlaw7_WearBuckets.j2 k2 a1 x5_2 t318 bt324.1 bt324.2 true) else (if 0 ≤ (wrap64 ((t318.length : Int) - 1)) then (if (wrap64 ((t318.length : Int) - 1)) < (t318.length : Int) then (potsherdlaw7_WearBuckets.j2 k2 a1 x5_2 t318 bt324.1 bt324.2 (decide ((rd t318 (wrap64 ((t318.length : Int) - 1))) < 1))) else (none)) else (none))) else (none)) else (potsherdlaw7_WearBuckets.j2 k2 a1 x5_2 t318 bt324.1 bt324.2 true)))) = some r := H
                  have A20 := Aside0.mk A200
                  clear A200
                  replace H := Option.bind_eq_some_iff.mp H
                  obtain ⟨t321, A210, H⟩ := H
                  replace H : ((wear_Ends.f k2 x5_2 t321).bind fun bt324 => (if (t318.length : Int) = (wrap64 ((wrap64 (bt324.2 - bt324.1)) + 1)) then (if 0 < (t318.length : Int) then (if (rd t318 0) < 1 then (potsherdlaw7_WearBuckets.j2 k2 a1 x5_2 t318 bt324.1 bt324.2 true) else (if 0 ≤ (wrap64 ((t318.length : Int) - 1)) then (if (wrap64 ((t318.length : Int) - 1)) < (t318.length : Int) then (potsherdlaw7_WearBuckets.j2 k2 a1 x5_2 t318 bt324.1 bt324.2 (decide ((rd t318 (wrap64 ((t318.length : Int) - 1))) < 1))) else (none)) else (none))) else (none)) else (potsherdlaw7_WearBuckets.j2 k2 a1 x5_2 t318 bt324.1 bt324.2 true))) = some r := H
                  have A21 := Aside0.mk A210
                  clear A210
                  replace H := Option.bind_eq_some_iff.mp H
                  obtain ⟨⟨t324, t325⟩, A220, H⟩ := H
                  replace H : (if (t318.length : Int) = (wrap64 ((wrap64 (t325 - t324)) + 1)) then (if 0 < (t318.length : Int) then (if (rd t318 0) < 1 then (potsherdlaw7_WearBuckets.j2 k2 a1 x5_2 t318 t324 t325 true) else (if 0 ≤ (wrap64 ((t318.length : Int) - 1)) then (if (wrap64 ((t318.length : Int) - 1)) < (t318.length : Int) then (potsherdlaw7_WearBuckets.j2 k2 a1 x5_2 t318 t324 t325 (decide ((rd t318 (wrap64 ((t318.length : Int) - 1))) < 1))) else (none)) else (none))) else (none)) else (potsherdlaw7_WearBuckets.j2 k2 a1 x5_2 t318 t324 t325 true)) = some r := H
                  have A22 := Aside0.mk A220
                  clear A220
                  have HC23 := Aside0.mk H
                  clear H
                  obtain ⟨Ao24, co24, eo24⟩ := Kd.R_slice HO_5.out
                  subst eo24
                  go_upto_region 11 with (first | ((with_reducible refine gate_callee (f := 22) rfl ?_); refine goesL_ (some 45) rfl rfl Try.func22 (by kernel_rfl) rfl #[.int .i64 (x5_2.length : Int)] rfl (by (try simp only [List.map_toArray, List.map_cons, List.map_nil]); first | done | rfl | (simp only [List.length_drop, List.length_take]; rfl)) ?_; (with_reducible refine (potsherdlaw7_all.calls k2 (x5_2.length : Int) t315 _ A19.out).mono ?_); rintro e w25 ⟨v316, rfl, ho0, hb⟩; refine ⟨_, rfl, ?_⟩; have n0_ := Aside0.mk (Kd.R_below (by (with_reducible repeat (first | apply Kd.R_alloc | apply Kd.R_drewN | apply Kd.R_drew)); exact HO_5.out) hb); have n1_ := Aside0.mk (Kd.R_lower ho0 (below_size (by repeat (first | (with_reducible first | exact HB.out | apply below_alloc | apply pw_below_drewN | apply below_drew1) | exact HB.out)))); have n2_ := Aside0.mk (below_step (by repeat (first | (with_reducible first | exact HB.out | apply below_alloc | apply pw_below_drewN | apply below_drew1) | exact HB.out)) hb); clear HO_5; clear HB; have HO_5 := n0_; have HO317 := n1_; have HB := n2_; clear n0_ n1_ n2_; (try clear hb); (try clear hb2); (try clear hk); (try clear hi); (try clear ho0); obtain ⟨Ao26, co26, eo26⟩ := Kd.R_slice HO317.out; subst eo26) | ((with_reducible refine gate_callee (f := 20) rfl ?_); refine goesL_ (some 46) rfl rfl Try.func20 (by kernel_rfl) rfl #[.slice Ao24 x5_2.length co24, .slice Ao26 t315.length co26] rfl (by (try simp only [List.map_toArray, List.map_cons, List.map_nil]); first | done | rfl | (simp only [List.length_drop, List.length_take]; rfl)) ?_; (with_reducible refine (wear_Buckets.calls k2 _ _ x5_2 _ _ t315 t318 _ ?side1 ?side2 ?side3 ?side4 A20.out).mono ?_); (case side1 => repeat (first | exact (Kd.R_reads' HO_5.out).2.2 | (with_reducible refine Kd.C_alloc ?_ _) | (with_reducible refine Kd.C_drewN ?_ _) | (with_reducible refine Kd.C_drew ?_))); (case side2 => exact (Kd.R_reads' HO_5.out).2.1); (case side3 => repeat (first | exact (Kd.R_reads' HO317.out).2.2 | (with_reducible refine Kd.C_alloc ?_ _) | (with_reducible refine Kd.C_drewN ?_ _) | (with_reducible refine Kd.C_drew ?_))); (case side4 => exact (Kd.R_reads' HO317.out).2.1); rintro e w27 ⟨v319, rfl, ho0, hb⟩; refine ⟨_, rfl, ?_⟩; have n0_ := Aside0.mk (Kd.R_elder' (by (with_reducible repeat (first | apply Kd.R_alloc | apply Kd.R_drewN | apply Kd.R_drew)); exact HO_5.out) (Kd.R_base ho0) hb); have n1_ := Aside0.mk (Kd.R_below (by (with_reducible repeat (first | apply Kd.R_alloc | apply Kd.R_drewN | apply Kd.R_drew)); exact HO317.out) hb); have n2_ := Aside0.mk (Kd.R_lower (Kd.R_new' ho0 (Kd.R_lt (by (with_reducible repeat (first | apply Kd.R_alloc | apply Kd.R_drewN | apply Kd.R_drew)); exact HO_5.out))) (below_size (by repeat (first | (with_reducible first | exact HB.out | apply below_alloc | apply pw_below_drewN | apply below_drew1) | exact HB.out)))); have n3_ := Aside0.mk (below_step (by repeat (first | (with_reducible first | exact HB.out | apply below_alloc | apply pw_below_drewN | apply below_drew1) | exact HB.out)) hb); clear HO_5; clear HO317; clear HB; have HO_5 := n0_; have HO317 := n1_; have HO320 := n2_; have HB := n3_; clear n0_ n1_ n2_ n3_; (try clear hb); (try clear hb2); (try clear hk); (try clear hi); (try clear ho0)) | ((with_reducible refine gate_callee (f := 22) rfl ?_); refine goesL_ (some 51) rfl rfl Try.func22 (by kernel_rfl) rfl #[.int .i64 (x5_2.length : Int)] rfl (by (try simp only [List.map_toArray, List.map_cons, List.map_nil]); first | done | rfl | (simp only [List.length_drop, List.length_take]; rfl)) ?_; (with_reducible refine (potsherdlaw7_all.calls k2 (x5_2.length : Int) t321 _ A21.out).mono ?_); rintro e w28 ⟨v322, rfl, ho0, hb⟩; refine ⟨_, rfl, ?_⟩; have n0_ := Aside0.mk (Kd.R_below (by (with_reducible repeat (first | apply Kd.R_alloc | apply Kd.R_drewN | apply Kd.R_drew)); exact HO_5.out) hb); have n1_ := Aside0.mk (Kd.R_elder' (by (with_reducible repeat (first | apply Kd.R_alloc | apply Kd.R_drewN | apply Kd.R_drew)); exact HO317.out) (Kd.R_base ho0) hb); have n2_ := Aside0.mk (Kd.R_below (by (with_reducible repeat (first | apply Kd.R_alloc | apply Kd.R_drewN | apply Kd.R_drew)); exact HO320.out) hb); have n3_ := Aside0.mk (Kd.R_lower (Kd.R_new' ho0 (Kd.R_lt (by (with_reducible repeat (first | apply Kd.R_alloc | apply Kd.R_drewN | apply Kd.R_drew)); exact HO317.out))) (below_size (by repeat (first | (with_reducible first | exact HB.out | apply below_alloc | apply pw_below_drewN | apply below_drew1) | exact HB.out)))); have n4_ := Aside0.mk (below_step (by repeat (first | (with_reducible first | exact HB.out | apply below_alloc | apply pw_below_drewN | apply below_drew1) | exact HB.out)) hb); clear HO_5; clear HO317; clear HO320; clear HB; have HO_5 := n0_; have HO317 := n1_; have HO320 := n2_; have HO323 := n3_; have HB := n4_; clear n0_ n1_ n2_ n3_ n4_; (try clear hb); (try clear hb2); (try clear hk); (try clear hi); (try clear ho0); obtain ⟨Ao29, co29, eo29⟩ := Kd.R_slice HO323.out; subst eo29) | ((with_reducible refine gate_callee (f := 9) rfl ?_); refine goesL_ (some 52) rfl rfl Try.func9 (by kernel_rfl) rfl #[.slice Ao24 x5_2.length co24, .slice Ao29 t321.length co29] rfl (by (try simp only [List.map_toArray, List.map_cons, List.map_nil]); first | done | rfl | (simp only [List.length_drop, List.length_take]; rfl)) ?_; (with_reducible refine (wear_Ends.calls k2 _ _ x5_2 _ _ t321 t324 t325 _ ?side1 ?side2 ?side3 ?side4 A22.out).mono ?_); (case side1 => repeat (first | exact (Kd.R_reads' HO_5.out).2.2 | (with_reducible refine Kd.C_alloc ?_ _) | (with_reducible refine Kd.C_drewN ?_ _) | (with_reducible refine Kd.C_drew ?_))); (case side2 => exact (Kd.R_reads' HO_5.out).2.1); (case side3 => repeat (first | exact (Kd.R_reads' HO323.out).2.2 | (with_reducible refine Kd.C_alloc ?_ _) | (with_reducible refine Kd.C_drewN ?_ _) | (with_reducible refine Kd.C_drew ?_))); (case side4 => exact (Kd.R_reads' HO323.out).2.1); rintro e w30 ⟨rfl, hb⟩; refine ⟨_, rfl, ?_⟩; have n0_ := Aside0.mk (Kd.R_below (by (with_reducible repeat (first | apply Kd.R_alloc | apply Kd.R_drewN | apply Kd.R_drew)); exact HO_5.out) hb); have n1_ := Aside0.mk (Kd.R_below (by (with_reducible repeat (first | apply Kd.R_alloc | apply Kd.R_drewN | apply Kd.R_drew)); exact HO317.out) hb); have n2_ := Aside0.mk (Kd.R_below (by (with_reducible repeat (first | apply Kd.R_alloc | apply Kd.R_drewN | apply Kd.R_drew)); exact HO320.out) hb); have n3_ := Aside0.mk (Kd.R_below (by (with_reducible repeat (first | apply Kd.R_alloc | apply Kd.R_drewN | apply Kd.R_drew)); exact HO323.out) hb); have n4_ := Aside0.mk (below_step (by repeat (first | (with_reducible first | exact HB.out | apply below_alloc | apply pw_below_drewN | apply below_drew1) | exact HB.out)) hb); clear HO_5; clear HO317; clear HO320; clear HO323; clear HB; have HO_5 := n0_; have HO317 := n1_; have HO320 := n2_; have HO323 := n3_; have HB := n4_; clear n0_ n1_ n2_ n3_ n4_; (try clear hb); (try clear hb2); (try clear hk); (try clear hi)))
                  (try simp only [Act.put, List.setIfInBounds_toArray, List.set_cons_zero, List.set_cons_succ])
                  go_cut [76] (fun v76 wc => ∃ (kq : Nat) (x76_22 : Bool), v76 = .bool x76_22 ∧ Aside0 (potsherdlaw7_WearBuckets.j2 kq a1 x5_2 t318 t324 t325 x76_22 = some r) ∧ Aside0 (kq ≤ k2) ∧ Aside0 (Kd.R (Kd.int .i64) 3 wc w.heap.size (fun k_ => some k_ ≠ (v319 : Value).ownBlock) (.slice Ao24 x5_2.length co24) x5_2) ∧ Aside0 (Kd.R (Kd.int .i64) 3 wc w.heap.size (fun k_ => some k_ ≠ ((.slice Ao24 x5_2.length co24) : Value).ownBlock) v319 t318) ∧ Aside0 (Below w.heap.size w wc))
                  case first =>
                    have H := HC23.out
                    clear HC23
                    by_cases c31 : (t318.length : Int) = (wrap64 ((wrap64 (t325 - t324)) + 1))
                    · rw [if_pos c31] at H
                      have c31b0 : ((t318.length : Int) == (wrap64 ((wrap64 (t325 - t324)) + 1))) = true := beq_iff_eq.mpr c31
                      have c31b1 : ((t318.length : Int) != (wrap64 ((wrap64 (t325 - t324)) + 1))) = false := bne_eq_false_iff_eq.mpr c31
                      clear c31
                      (first | rw [c31b0] | (simp only [i64_w, i32_w]; rw [c31b0]) | skip)
                      by_cases c32 : 0 < (t318.length : Int)
                      · rw [if_pos c32] at H
                        have c32b0 : decide (0 < (t318.length : Int)) = true := decide_eq_true c32
                        have c32b1 : decide (0 < t318.length) = true := decide_eq_true (by omega)
                        clear c32
                        by_cases c33 : (rd t318 0) < 1
                        · rw [if_pos c33] at H
                          have c33b0 : decide ((rd t318 0) < 1) = true := decide_eq_true c33
                          clear c33
                          have H' := Aside0.mk H
                          clear H
                          obtain ⟨Ao34, co34, eo34⟩ := Kd.R_slice HO320.out
                          subst eo34
                          have p326 : 0 ≤ (0 : Int) := (by omega)
                          have q326 : 0 < (t318.length : Int) := of_decide_eq_true (by first | (with_reducible assumption) | assumption)
                          obtain ⟨ad326, e326, hx326_0⟩ := Kd.at_int (Kd.R_reads' HO320.out).2.2 0 p326 q326
                          cases e326
                          have qi326 : (0 < t318.length) = True := eq_true (by omega)
                          (try rw [show ((0 : Int)).toNat = 0 from rfl] at hx326_0)
                          (try rw [Addr.add_zero'] at hx326_0)
                          replace p326 := eq_true p326
                          replace q326 := eq_true q326
                          go_wp2
                          go_meet
                          case rel => exact ⟨_, (true), (by first | rfl | (simp; done) | (simp [*]; done)), H', ⟨by have := HJ2.out; have := HK2.out; first | omega | exact Nat.le_refl _⟩, ⟨by (with_reducible repeat (first | apply Kd.R_alloc | apply Kd.R_drewN | apply Kd.R_drew)); exact Kd.R_mono HO_5.out (fun _ hk => hk.2)⟩, ⟨by (with_reducible repeat (first | apply Kd.R_alloc | apply Kd.R_drewN | apply Kd.R_drew)); exact Kd.R_mono HO320.out (fun _ hk => hk.2)⟩, ⟨by repeat (first | (with_reducible first | exact HB.out | apply below_alloc | apply pw_below_drewN | apply below_drew1) | exact HB.out)⟩⟩
                        · rw [if_neg c33] at H
                          have c33b0 : decide ((rd t318 0) < 1) = false := decide_eq_false c33
                          clear c33
                          obtain ⟨ji35, hji35⟩ : ∃ j_ : Int, (wrap64 ((t318.length : Int) - 1)) = j_ := ⟨_, rfl⟩
                          replace H : (if 0 ≤ (ji35) then (if (ji35) < (t318.length : Int) then (potsherdlaw7_WearBuckets.j2 k2 a1 x5_2 t318 t324 t325 (decide ((rd t318 (ji35)) < 1))) else (none)) else (none)) = some r := by first | (rw [hji35] at H; exact H) | (simp only [hji35] at H ⊢; exact H)
                          have hji35w : (IntKind.i64.wrap ((t318.length : Int) - 1)) = ji35 := (i64_w _).trans hji35
                          by_cases c36 : 0 ≤ (ji35)
                          · rw [if_pos c36] at H
                            have c36b0 : decide (0 ≤ (ji35)) = true := decide_eq_true c36
                            clear c36
                            by_cases c37 : (ji35) < (t318.length : Int)
                            · rw [if_pos c37] at H
                              have c37b0 : decide ((ji35) < (t318.length : Int)) = true := decide_eq_true c37
                              clear c37
                              have H' := Aside0.mk H
                              clear H
                              obtain ⟨Ao38, co38, eo38⟩ := Kd.R_slice HO320.out
                              subst eo38
                              have p326 : 0 ≤ (0 : Int) := (by omega)
                              have q326 : 0 < (t318.length : Int) := of_decide_eq_true (by first | (with_reducible assumption) | assumption)
                              obtain ⟨ad326, e326, hx326_0⟩ := Kd.at_int (Kd.R_reads' HO320.out).2.2 0 p326 q326
                              cases e326
                              have qi326 : (0 < t318.length) = True := eq_true (by omega)
                              (try rw [show ((0 : Int)).toNat = 0 from rfl] at hx326_0)
                              (try rw [Addr.add_zero'] at hx326_0)
                              replace p326 := eq_true p326
                              replace q326 := eq_true q326
                              have p327 : 0 ≤ ((ji35) : Int) := of_decide_eq_true (by first | (with_reducible assumption) | assumption)
                              have q327 : (ji35) < (t318.length : Int) := of_decide_eq_true (by first | (with_reducible assumption) | assumption)
                              obtain ⟨ad327, e327, hx327_0⟩ := Kd.at_int (Kd.R_reads' HO320.out).2.2 (ji35) p327 q327
                              obtain rfl : ad326 = ad327 := (by injection e327)
                              replace p327 := eq_true p327
                              replace q327 := eq_true q327
                              go_wp2
                              go_meet
                              case rel => exact ⟨_, (decide ((rd t318 (ji35)) < 1)), (by first | rfl | (simp; done) | (simp [← hji35, mn, mx]; done) | (simp only [← hji35] <;> (first | rfl | simp)) | (simp [*]; done)), H', ⟨by have := HJ2.out; have := HK2.out; first | omega | exact Nat.le_refl _⟩, ⟨by (with_reducible repeat (first | apply Kd.R_alloc | apply Kd.R_drewN | apply Kd.R_drew)); exact Kd.R_mono HO_5.out (fun _ hk => hk.2)⟩, ⟨by (with_reducible repeat (first | apply Kd.R_alloc | apply Kd.R_drewN | apply Kd.R_drew)); exact Kd.R_mono HO320.out (fun _ hk => hk.2)⟩, ⟨by repeat (first | (with_reducible first | exact HB.out | apply below_alloc | apply pw_below_drewN | apply below_drew1) | exact HB.out)⟩⟩
                            · rw [if_neg c37] at H
                              exact absurd H (by simp)
                          · rw [if_neg c36] at H
                            exact absurd H (by simp)
                      · rw [if_neg c32] at H
                        exact absurd H (by simp)
                    · rw [if_neg c31] at H
                      have c31b0 : ((t318.length : Int) == (wrap64 ((wrap64 (t325 - t324)) + 1))) = false := beq_eq_false_iff_ne.mpr c31
                      have c31b1 : ((t318.length : Int) != (wrap64 ((wrap64 (t325 - t324)) + 1))) = true := bne_iff_ne.mpr c31
                      (first | rw [c31b0] | (simp only [i64_w, i32_w]; rw [c31b0]) | skip)
                      have H' := Aside0.mk H
                      clear H
                      obtain ⟨Ao39, co39, eo39⟩ := Kd.R_slice HO320.out
                      subst eo39
                      go_wp2
                      go_meet
                      case rel => exact ⟨_, (true), (by first | rfl | (simp; done) | (simp [*]; done)), H', ⟨by have := HJ2.out; have := HK2.out; first | omega | exact Nat.le_refl _⟩, ⟨by (with_reducible repeat (first | apply Kd.R_alloc | apply Kd.R_drewN | apply Kd.R_drew)); exact Kd.R_mono HO_5.out (fun _ hk => hk.2)⟩, ⟨by (with_reducible repeat (first | apply Kd.R_alloc | apply Kd.R_drewN | apply Kd.R_drew)); exact Kd.R_mono HO320.out (fun _ hk => hk.2)⟩, ⟨by repeat (first | (with_reducible first | exact HB.out | apply below_alloc | apply pw_below_drewN | apply below_drew1) | exact HB.out)⟩⟩
                  case rest =>
                    clear HC23
                    try clear c1
                    try clear p1
                    try clear q1
                    try clear hx1
                    try clear c2
                    try clear p2
                    try clear c3
                    try clear p3
                    try clear q3
                    try clear hx3
                    try clear qi3
                    try clear c4
                    try clear c4b0
                    try clear c4b1
                    try clear c5
                    try clear p6
                    try clear c7
                    try clear c8
                    try clear c8b0
                    try clear c8b1
                    try clear c9
                    try clear c9b0
                    try clear c9b1
                    try clear c12
                    try clear c12b0
                    try clear c13
                    try clear c13b0
                    try clear c14
                    try clear c14b0
                    try clear c15
                    try clear c15b0
                    try clear p16
                    try clear q16
                    try clear hx16
                    try clear hf16
                    try clear c20
                    try clear c22
                    try clear c31
                    try clear c31b0
                    try clear c31b1
                    try clear p31
                    try clear q31
                    try clear hx31
                    try clear c32
                    try clear c32b0
                    try clear c32b1
                    try clear p32
                    try clear q32
                    try clear hx32
                    try clear qi32
                    try clear c33
                    try clear c33b0
                    try clear c36
                    try clear c36b0
                    try clear c37
                    try clear c37b0
                    try clear hx16_0
                    try clear hx313_0
                    try clear hx326_0
                    try clear hx327_0
                    try clear p16
                    try clear p2
                    try clear p313
                    try clear p326
                    try clear p327
                    try clear q16
                    try clear q313
                    try clear q326
                    try clear q327
                    obtain ⟨kq, x76_22, rfl, HA, HJ22, HO_5, HO_8, HB⟩ := hcut
                    cases kq with
                    | zero => exact absurd HA.out (by simp [potsherdlaw7_WearBuckets.j2])
                    | succ kj22 =>
                      have H := HA.out
                      clear HA
                      simp only [potsherdlaw7_WearBuckets.j2] at H
                      by_cases c40 : x76_22 = true
                      · subst c40
                        have H1 : (some false) = some r := by rw [if_pos rfl] at H; exact H
                        clear H
                        have H := H1
                        clear H1
                        obtain rfl := Option.some.inj H
                        go_wp2
                        go_ret
                        exact ⟨by first | rfl | (simp [errW_none, errW_some] <;> rfl) | (simp [*, errW_none, errW_some] <;> rfl), by repeat (first | (with_reducible first | exact HB.out | apply below_alloc | apply pw_below_drewN | apply below_drew1) | exact HB.out)⟩
                      · replace c40 := Bool.eq_false_iff.mpr c40
                        subst c40
                        have H1 : (if (IntKind.u64.wrap ((x5_2.length : Int))) = 0 then (none) else (if 0 ≤ (wrap64 (Int.tmod (IntKind.u64.wrap (a1)) (IntKind.u64.wrap ((x5_2.length : Int))))) then (if (wrap64 (Int.tmod (IntKind.u64.wrap (a1)) (IntKind.u64.wrap ((x5_2.length : Int))))) < (x5_2.length : Int) then (if (rd x5_2 (wrap64 (Int.tmod (IntKind.u64.wrap (a1)) (IntKind.u64.wrap ((x5_2.length : Int)))))) = t325 then (potsherdlaw7_WearBuckets.j3 kj22 (wrap64 (Int.tmod (IntKind.u64.wrap (a1)) (IntKind.u64.wrap ((x5_2.length : Int))))) x5_2 t318 t324 true) else (if (rd x5_2 (wrap64 (Int.tmod (IntKind.u64.wrap (a1)) (IntKind.u64.wrap ((x5_2.length : Int)))))) = t324 then (if 0 < (t318.length : Int) then (potsherdlaw7_WearBuckets.j3 kj22 (wrap64 (Int.tmod (IntKind.u64.wrap (a1)) (IntKind.u64.wrap ((x5_2.length : Int))))) x5_2 t318 t324 ((rd t318 0) == 1)) else (none)) else (potsherdlaw7_WearBuckets.j3 kj22 (wrap64 (Int.tmod (IntKind.u64.wrap (a1)) (IntKind.u64.wrap ((x5_2.length : Int))))) x5_2 t318 t324 false))) else (none)) else (none))) = some r := by rw [if_neg (show ¬ (false = true) by decide)] at H; exact H
                        clear H
                        have H := H1
                        clear H1
                        by_cases c41 : (IntKind.u64.wrap ((x5_2.length : Int))) = 0
                        · rw [if_pos c41] at H
                          exact absurd H (by simp)
                        · rw [if_neg c41] at H
                          have c41b0 : ((IntKind.u64.wrap ((x5_2.length : Int))) == 0) = false := beq_eq_false_iff_ne.mpr c41
                          have c41b1 : ((IntKind.u64.wrap ((x5_2.length : Int))) != 0) = true := bne_iff_ne.mpr c41
                          have HC42 := Aside0.mk H
                          clear H
                          go_upto_region 14 with (fail)
                          go_cut [103] (fun v103 wc => ∃ (kq : Nat) (x103_41 : Bool), v103 = .bool x103_41 ∧ Aside0 (potsherdlaw7_WearBuckets.j3 kq (wrap64 (Int.tmod (IntKind.u64.wrap (a1)) (IntKind.u64.wrap ((x5_2.length : Int))))) x5_2 t318 t324 x103_41 = some r) ∧ Aside0 (kq ≤ kj22) ∧ Aside0 (Kd.R (Kd.int .i64) 3 wc w.heap.size (fun k_ => some k_ ≠ (v319 : Value).ownBlock) (.slice Ao24 x5_2.length co24) x5_2) ∧ Aside0 (Kd.R (Kd.int .i64) 3 wc w.heap.size (fun k_ => some k_ ≠ ((.slice Ao24 x5_2.length co24) : Value).ownBlock) v319 t318) ∧ Aside0 (Below w.heap.size w wc))
                          case first =>
                            have H := HC42.out
                            clear HC42
                            obtain ⟨ji43, hji43⟩ : ∃ j_ : Int, (wrap64 (Int.tmod (IntKind.u64.wrap (a1)) (IntKind.u64.wrap ((x5_2.length : Int))))) = j_ := ⟨_, rfl⟩
                            replace H : (if 0 ≤ (ji43) then (if (ji43) < (x5_2.length : Int) then (if (rd x5_2 (ji43)) = t325 then (potsherdlaw7_WearBuckets.j3 kj22 ji43 x5_2 t318 t324 true) else (if (rd x5_2 (ji43)) = t324 then (if 0 < (t318.length : Int) then (potsherdlaw7_WearBuckets.j3 kj22 ji43 x5_2 t318 t324 ((rd t318 0) == 1)) else (none)) else (potsherdlaw7_WearBuckets.j3 kj22 ji43 x5_2 t318 t324 false))) else (none)) else (none)) = some r := by first | (rw [hji43] at H; exact H) | (simp only [hji43] at H ⊢; exact H)
                            have hji43w : (IntKind.i64.wrap (Int.tmod (IntKind.u64.wrap (a1)) (IntKind.u64.wrap ((x5_2.length : Int))))) = ji43 := (i64_w _).trans hji43
                            by_cases c44 : 0 ≤ (ji43)
                            · rw [if_pos c44] at H
                              have c44b0 : decide (0 ≤ (ji43)) = true := decide_eq_true c44
                              clear c44
                              (first | rw [c44b0] | (simp only [i64_w, i32_w]; rw [c44b0]) | skip)
                              by_cases c45 : (ji43) < (x5_2.length : Int)
                              · rw [if_pos c45] at H
                                have c45b0 : decide ((ji43) < (x5_2.length : Int)) = true := decide_eq_true c45
                                clear c45
                                by_cases c46 : (rd x5_2 (ji43)) = t325
                                · rw [if_pos c46] at H
                                  have c46b0 : ((rd x5_2 (ji43)) == t325) = true := beq_iff_eq.mpr c46
                                  have c46b1 : ((rd x5_2 (ji43)) != t325) = false := bne_eq_false_iff_eq.mpr c46
                                  clear c46
                                  have H' := Aside0.mk H
                                  clear H
                                  have p328 : 0 ≤ ((ji43) : Int) := of_decide_eq_true (by first | (with_reducible assumption) | assumption)
                                  have q328 : (ji43) < (x5_2.length : Int) := of_decide_eq_true (by first | (with_reducible assumption) | assumption)
                                  obtain ⟨ad328, e328, hx328_0⟩ := Kd.at_int (Kd.R_reads' HO_5.out).2.2 (ji43) p328 q328
                                  cases e328
                                  replace p328 := eq_true p328
                                  replace q328 := eq_true q328
                                  go_wp2
                                  go_meet
                                  (try subst hji43)
                                  case rel => exact ⟨_, (true), (by first | rfl | (simp; done) | (simp [*]; done)), H', ⟨by have := HJ2.out; have := HK2.out; have := HJ22.out; first | omega | exact Nat.le_refl _⟩, ⟨by (with_reducible repeat (first | apply Kd.R_alloc | apply Kd.R_drewN | apply Kd.R_drew)); exact HO_5.out⟩, ⟨by (with_reducible repeat (first | apply Kd.R_alloc | apply Kd.R_drewN | apply Kd.R_drew)); exact HO_8.out⟩, ⟨by repeat (first | (with_reducible first | exact HB.out | apply below_alloc | apply pw_below_drewN | apply below_drew1) | exact HB.out)⟩⟩
                                · rw [if_neg c46] at H
                                  have c46b0 : ((rd x5_2 (ji43)) == t325) = false := beq_eq_false_iff_ne.mpr c46
                                  have c46b1 : ((rd x5_2 (ji43)) != t325) = true := bne_iff_ne.mpr c46
                                  by_cases c47 : (rd x5_2 (ji43)) = t324
                                  · rw [if_pos c47] at H
                                    have c47b0 : ((rd x5_2 (ji43)) == t324) = true := beq_iff_eq.mpr c47
                                    have c47b1 : ((rd x5_2 (ji43)) != t324) = false := bne_eq_false_iff_eq.mpr c47
                                    clear c47
                                    by_cases c48 : 0 < (t318.length : Int)
                                    · rw [if_pos c48] at H
                                      have c48b0 : decide (0 < (t318.length : Int)) = true := decide_eq_true c48
                                      have c48b1 : decide (0 < t318.length) = true := decide_eq_true (by omega)
                                      clear c48
                                      have H' := Aside0.mk H
                                      clear H
                                      have p328 : 0 ≤ ((ji43) : Int) := of_decide_eq_true (by first | (with_reducible assumption) | assumption)
                                      have q328 : (ji43) < (x5_2.length : Int) := of_decide_eq_true (by first | (with_reducible assumption) | assumption)
                                      obtain ⟨ad328, e328, hx328_0⟩ := Kd.at_int (Kd.R_reads' HO_5.out).2.2 (ji43) p328 q328
                                      cases e328
                                      replace p328 := eq_true p328
                                      replace q328 := eq_true q328
                                      have p329 : 0 ≤ ((ji43) : Int) := of_decide_eq_true (by first | (with_reducible assumption) | assumption)
                                      have q329 : (ji43) < (x5_2.length : Int) := of_decide_eq_true (by first | (with_reducible assumption) | assumption)
                                      obtain ⟨ad329, e329, hx329_0⟩ := Kd.at_int (Kd.R_reads' HO_5.out).2.2 (ji43) p329 q329
                                      obtain rfl : ad328 = ad329 := (by injection e329)
                                      replace p329 := eq_true p329
                                      replace q329 := eq_true q329
                                      obtain ⟨Ao49, co49, eo49⟩ := Kd.R_slice HO_8.out
                                      subst eo49
                                      have p330 : 0 ≤ (0 : Int) := (by omega)
                                      have q330 : 0 < (t318.length : Int) := of_decide_eq_true (by first | (with_reducible assumption) | assumption)
                                      obtain ⟨ad330, e330, hx330_0⟩ := Kd.at_int (Kd.R_reads' HO_8.out).2.2 0 p330 q330
                                      cases e330
                                      have qi330 : (0 < t318.length) = True := eq_true (by omega)
                                      (try rw [show ((0 : Int)).toNat = 0 from rfl] at hx330_0)
                                      (try rw [Addr.add_zero'] at hx330_0)
                                      replace p330 := eq_true p330
                                      replace q330 := eq_true q330
                                      go_wp2
                                      (try subst hji43)
                                      go_meet
                                      case rel => exact ⟨_, (((rd t318 0) == 1)), (by first | rfl | (simp; done) | (simp [*]; done)), H', ⟨by have := HJ2.out; have := HK2.out; have := HJ22.out; first | omega | exact Nat.le_refl _⟩, ⟨by (with_reducible repeat (first | apply Kd.R_alloc | apply Kd.R_drewN | apply Kd.R_drew)); exact HO_5.out⟩, ⟨by (with_reducible repeat (first | apply Kd.R_alloc | apply Kd.R_drewN | apply Kd.R_drew)); exact HO_8.out⟩, ⟨by repeat (first | (with_reducible first | exact HB.out | apply below_alloc | apply pw_below_drewN | apply below_drew1) | exact HB.out)⟩⟩
                                    · rw [if_neg c48] at H
                                      exact absurd H (by simp)
                                  · rw [if_neg c47] at H
                                    have c47b0 : ((rd x5_2 (ji43)) == t324) = false := beq_eq_false_iff_ne.mpr c47
                                    have c47b1 : ((rd x5_2 (ji43)) != t324) = true := bne_iff_ne.mpr c47
                                    have H' := Aside0.mk H
                                    clear H
                                    have p328 : 0 ≤ ((ji43) : Int) := of_decide_eq_true (by first | (with_reducible assumption) | assumption)
                                    have q328 : (ji43) < (x5_2.length : Int) := of_decide_eq_true (by first | (with_reducible assumption) | assumption)
                                    obtain ⟨ad328, e328, hx328_0⟩ := Kd.at_int (Kd.R_reads' HO_5.out).2.2 (ji43) p328 q328
                                    cases e328
                                    replace p328 := eq_true p328
                                    replace q328 := eq_true q328
                                    have p329 : 0 ≤ ((ji43) : Int) := of_decide_eq_true (by first | (with_reducible assumption) | assumption)
                                    have q329 : (ji43) < (x5_2.length : Int) := of_decide_eq_true (by first | (with_reducible assumption) | assumption)
                                    obtain ⟨ad329, e329, hx329_0⟩ := Kd.at_int (Kd.R_reads' HO_5.out).2.2 (ji43) p329 q329
                                    obtain rfl : ad328 = ad329 := (by injection e329)
                                    replace p329 := eq_true p329
                                    replace q329 := eq_true q329
                                    go_wp2
                                    (try subst hji43)
                                    go_meet
                                    case rel => exact ⟨_, (false), (by first | rfl | (simp; done) | (simp [*]; done)), H', ⟨by have := HJ2.out; have := HK2.out; have := HJ22.out; first | omega | exact Nat.le_refl _⟩, ⟨by (with_reducible repeat (first | apply Kd.R_alloc | apply Kd.R_drewN | apply Kd.R_drew)); exact HO_5.out⟩, ⟨by (with_reducible repeat (first | apply Kd.R_alloc | apply Kd.R_drewN | apply Kd.R_drew)); exact HO_8.out⟩, ⟨by repeat (first | (with_reducible first | exact HB.out | apply below_alloc | apply pw_below_drewN | apply below_drew1) | exact HB.out)⟩⟩
                              · rw [if_neg c45] at H
                                exact absurd H (by simp)
                            · rw [if_neg c44] at H
                              exact absurd H (by simp)
                          case rest =>
                            clear HC42
                            try clear c1
                            try clear p1
                            try clear q1
                            try clear hx1
                            try clear c2
                            try clear p2
                            try clear c3
                            try clear p3
                            try clear q3
                            try clear hx3
                            try clear qi3
                            try clear c4
                            try clear c4b0
                            try clear c4b1
                            try clear c5
                            try clear p6
                            try clear c7
                            try clear c8
                            try clear c8b0
                            try clear c8b1
                            try clear c9
                            try clear c9b0
                            try clear c9b1
                            try clear c12
                            try clear c12b0
                            try clear c13
                            try clear c13b0
                            try clear c14
                            try clear c14b0
                            try clear c15
                            try clear c15b0
                            try clear p16
                            try clear q16
                            try clear hx16
                            try clear hf16
                            try clear c20
                            try clear c22
                            try clear c31
                            try clear c31b0
                            try clear c31b1
                            try clear p31
                            try clear q31
                            try clear hx31
                            try clear c32
                            try clear c32b0
                            try clear c32b1
                            try clear p32
                            try clear q32
                            try clear hx32
                            try clear qi32
                            try clear c33
                            try clear c33b0
                            try clear p33
                            try clear q33
                            try clear hx33
                            try clear qi33
                            try clear c36
                            try clear c36b0
                            try clear c37
                            try clear c37b0
                            try clear c40
                            try clear c41
                            try clear c41b0
                            try clear c41b1
                            try clear c44
                            try clear c44b0
                            try clear c45
                            try clear c45b0
                            try clear c46
                            try clear c46b0
                            try clear c46b1
                            try clear c47
                            try clear c47b0
                            try clear c47b1
                            try clear c48
                            try clear c48b0
                            try clear c48b1
                            try clear hx16_0
                            try clear hx313_0
                            try clear hx326_0
                            try clear hx327_0
                            try clear hx328_0
                            try clear hx329_0
                            try clear hx330_0
                            try clear p1
                            try clear p16
                            try clear p2
                            try clear p3
                            try clear p31
                            try clear p313
                            try clear p32
                            try clear p326
                            try clear p327
                            try clear p328
                            try clear p329
                            try clear p330
                            try clear p6
                            try clear q1
                            try clear q16
                            try clear q3
                            try clear q31
                            try clear q313
                            try clear q32
                            try clear q326
                            try clear q327
                            try clear q328
                            try clear q329
                            try clear q330
                            obtain ⟨kq, x103_41, rfl, HA, HJ41, HO_5, HO_8, HB⟩ := hcut
                            cases kq with
                            | zero => exact absurd HA.out (by simp [potsherdlaw7_WearBuckets.j3])
                            | succ kj41 =>
                              have H := HA.out
                              clear HA
                              simp only [potsherdlaw7_WearBuckets.j3] at H
                              by_cases c50 : x103_41 = true
                              · subst c50
                                have H1 : ((potsherdlaw7_awake.f kj41).bind fun t331 => (some t331)) = some r := by rw [if_pos rfl] at H; exact H
                                clear H
                                have H := H1
                                clear H1
                                replace H := Option.bind_eq_some_iff.mp H
                                obtain ⟨t331, A510, H⟩ := H
                                replace H : (some t331) = some r := H
                                have A51 := Aside0.mk A510
                                clear A510
                                obtain rfl := Option.some.inj H
                                go_wp2_with (first | ((with_reducible refine gate_callee (f := 8) rfl ?_); refine goesL_ (some 104) rfl rfl Try.func8 (by kernel_rfl) rfl #[] rfl (by (try simp only [List.map_toArray, List.map_cons, List.map_nil]); first | done | rfl | (simp only [List.length_drop, List.length_take]; rfl)) ?_; (with_reducible refine (potsherdlaw7_awake.calls kj41  t331 _ A51.out).mono ?_); rintro e w52 ⟨rfl, hb⟩; refine ⟨_, rfl, ?_⟩; have n0_ := Aside0.mk (Kd.R_below (by (with_reducible repeat (first | apply Kd.R_alloc | apply Kd.R_drewN | apply Kd.R_drew)); exact HO_5.out) hb); have n1_ := Aside0.mk (Kd.R_below (by (with_reducible repeat (first | apply Kd.R_alloc | apply Kd.R_drewN | apply Kd.R_drew)); exact HO_8.out) hb); have n2_ := Aside0.mk (below_step (by repeat (first | (with_reducible first | exact HB.out | apply below_alloc | apply pw_below_drewN | apply below_drew1) | exact HB.out)) hb); clear HO_5; clear HO_8; clear HB; have HO_5 := n0_; have HO_8 := n1_; have HB := n2_; clear n0_ n1_ n2_; (try clear hb); (try clear hb2); (try clear hk); (try clear hi)))
                                go_ret
                                exact ⟨by first | rfl | (simp [errW_none, errW_some] <;> rfl) | (simp [*, errW_none, errW_some] <;> rfl), by repeat (first | (with_reducible first | exact HB.out | apply below_alloc | apply pw_below_drewN | apply below_drew1) | exact HB.out)⟩
                              · replace c50 := Bool.eq_false_iff.mpr c50
                                subst c50
                                have H1 : (if 0 ≤ (wrap64 (Int.tmod (IntKind.u64.wrap (a1)) (IntKind.u64.wrap ((x5_2.length : Int))))) then (if (wrap64 (Int.tmod (IntKind.u64.wrap (a1)) (IntKind.u64.wrap ((x5_2.length : Int))))) < (x5_2.length : Int) then ((potsherdlaw7_all.f kj41 (x5_2.length : Int)).bind fun t335 => ((wear_Buckets.f kj41 (x5_2.set ((wrap64 (Int.tmod (IntKind.u64.wrap (a1)) (IntKind.u64.wrap ((x5_2.length : Int))))) : Int).toNat (wrap64 ((rd x5_2 (wrap64 (Int.tmod (IntKind.u64.wrap (a1)) (IntKind.u64.wrap ((x5_2.length : Int)))))) + 1))) t335).bind fun t338 => (if (t338.length : Int) = (t318.length : Int) then (if (wrap64 ((rd x5_2 (wrap64 (Int.tmod (IntKind.u64.wrap (a1)) (IntKind.u64.wrap ((x5_2.length : Int)))))) - t324)) < 0 then (potsherdlaw7_WearBuckets.j4 kj41 t318 (wrap64 ((rd x5_2 (wrap64 (Int.tmod (IntKind.u64.wrap (a1)) (IntKind.u64.wrap ((x5_2.length : Int)))))) - t324)) t338 true) else (potsherdlaw7_WearBuckets.j4 kj41 t318 (wrap64 ((rd x5_2 (wrap64 (Int.tmod (IntKind.u64.wrap (a1)) (IntKind.u64.wrap ((x5_2.length : Int)))))) - t324)) t338 (decide ((wrap64 ((wrap64 ((rd x5_2 (wrap64 (Int.tmod (IntKind.u64.wrap (a1)) (IntKind.u64.wrap ((x5_2.length : Int)))))) - t324)) + 1)) ≥ (t318.length : Int))))) else (potsherdlaw7_WearBuckets.j4 kj41 t318 (wrap64 ((rd x5_2 (wrap64 (Int.tmod (IntKind.u64.wrap (a1)) (IntKind.u64.wrap ((x5_2.length : Int)))))) - t324)) t338 true)))) else (none)) else (none)) = some r := by rw [if_neg (show ¬ (false = true) by decide)] at H; exact H
                                clear H
                                have H := H1
                                clear H1
                                obtain ⟨ji53, hji53⟩ : ∃ j_ : Int, (wrap64 (Int.tmod (IntKind.u64.wrap (a1)) (IntKind.u64.wrap ((x5_2.length : Int))))) = j_ := ⟨_, rfl⟩
                                replace H : (if 0 ≤ (ji53) then (if (ji53) < (x5_2.length : Int) then ((potsherdlaw7_all.f kj41 (x5_2.length : Int)).bind fun t335 => ((wear_Buckets.f kj41 (x5_2.set ((ji53) : Int).toNat (wrap64 ((rd x5_2 (ji53)) + 1))) t335).bind fun t338 => (if (t338.length : Int) = (t318.length : Int) then (if (wrap64 ((rd x5_2 (ji53)) - t324)) < 0 then (potsherdlaw7_WearBuckets.j4 kj41 t318 (wrap64 ((rd x5_2 (ji53)) - t324)) t338 true) else (potsherdlaw7_WearBuckets.j4 kj41 t318 (wrap64 ((rd x5_2 (ji53)) - t324)) t338 (decide ((wrap64 ((wrap64 ((rd x5_2 (ji53)) - t324)) + 1)) ≥ (t318.length : Int))))) else (potsherdlaw7_WearBuckets.j4 kj41 t318 (wrap64 ((rd x5_2 (ji53)) - t324)) t338 true)))) else (none)) else (none)) = some r := by first | (rw [hji53] at H; exact H) | (simp only [hji53] at H ⊢; exact H)
                                have hji53w : (IntKind.i64.wrap (Int.tmod (IntKind.u64.wrap (a1)) (IntKind.u64.wrap ((x5_2.length : Int))))) = ji53 := (i64_w _).trans hji53
                                by_cases c54 : 0 ≤ (ji53)
                                · rw [if_pos c54] at H
                                  have c54b0 : decide (0 ≤ (ji53)) = true := decide_eq_true c54
                                  clear c54
                                  by_cases c55 : (ji53) < (x5_2.length : Int)
                                  · rw [if_pos c55] at H
                                    have c55b0 : decide ((ji53) < (x5_2.length : Int)) = true := decide_eq_true c55
                                    clear c55
                                    obtain ⟨y334, hy334⟩ : ∃ y_ : List Int, y_ = (x5_2.set ((ji53) : Int).toNat (wrap64 ((rd x5_2 (ji53)) + 1))) := ⟨_, rfl⟩
                                    replace H : ((potsherdlaw7_all.f kj41 (x5_2.length : Int)).bind fun t335 => ((wear_Buckets.f kj41 y334 t335).bind fun t338 => (if (t338.length : Int) = (t318.length : Int) then (if (wrap64 ((rd x5_2 (ji53)) - t324)) < 0 then (potsherdlaw7_WearBuckets.j4 kj41 t318 (wrap64 ((rd x5_2 (ji53)) - t324)) t338 true) else (potsherdlaw7_WearBuckets.j4 kj41 t318 (wrap64 ((rd x5_2 (ji53)) - t324)) t338 (decide ((wrap64 ((wrap64 ((rd x5_2 (ji53)) - t324)) + 1)) ≥ (t318.length : Int))))) else (potsherdlaw7_WearBuckets.j4 kj41 t318 (wrap64 ((rd x5_2 (ji53)) - t324)) t338 true)))) = some r := by first | (rw [hy334]; with_reducible exact H) | (have H2_ := (Option.bind_some _ _).symm.trans H; rw [hy334]; with_reducible exact H2_) | (have H2_ := (Option.bind_some _ _).symm.trans H; with_reducible exact H2_) | with_reducible exact H | (rw [hy334]; exact H) | exact H
                                    have Ny334 := Aside0.mk hy334
                                    clear hy334
                                    replace H := Option.bind_eq_some_iff.mp H
                                    obtain ⟨t335, A570, H⟩ := H
                                    replace H : ((wear_Buckets.f kj41 y334 t335).bind fun t338 => (if (t338.length : Int) = (t318.length : Int) then (if (wrap64 ((rd x5_2 (ji53)) - t324)) < 0 then (potsherdlaw7_WearBuckets.j4 kj41 t318 (wrap64 ((rd x5_2 (ji53)) - t324)) t338 true) else (potsherdlaw7_WearBuckets.j4 kj41 t318 (wrap64 ((rd x5_2 (ji53)) - t324)) t338 (decide ((wrap64 ((wrap64 ((rd x5_2 (ji53)) - t324)) + 1)) ≥ (t318.length : Int))))) else (potsherdlaw7_WearBuckets.j4 kj41 t318 (wrap64 ((rd x5_2 (ji53)) - t324)) t338 true))) = some r := H
                                    have A57 := Aside0.mk A570
                                    clear A570
                                    replace H := Option.bind_eq_some_iff.mp H
                                    obtain ⟨t338, A580, H⟩ := H
                                    replace H : (if (t338.length : Int) = (t318.length : Int) then (if (wrap64 ((rd x5_2 (ji53)) - t324)) < 0 then (potsherdlaw7_WearBuckets.j4 kj41 t318 (wrap64 ((rd x5_2 (ji53)) - t324)) t338 true) else (potsherdlaw7_WearBuckets.j4 kj41 t318 (wrap64 ((rd x5_2 (ji53)) - t324)) t338 (decide ((wrap64 ((wrap64 ((rd x5_2 (ji53)) - t324)) + 1)) ≥ (t318.length : Int))))) else (potsherdlaw7_WearBuckets.j4 kj41 t318 (wrap64 ((rd x5_2 (ji53)) - t324)) t338 true)) = some r := H
                                    have A58 := Aside0.mk A580
                                    clear A580
                                    have HC59 := Aside0.mk H
                                    clear H
                                    have p332 : 0 ≤ ((ji53) : Int) := of_decide_eq_true (by first | (with_reducible assumption) | assumption)
                                    have q332 : (ji53) < (x5_2.length : Int) := of_decide_eq_true (by first | (with_reducible assumption) | assumption)
                                    obtain ⟨ad332, e332, hx332_0⟩ := Kd.at_int (Kd.R_reads' HO_5.out).2.2 (ji53) p332 q332
                                    cases e332
                                    replace p332 := eq_true p332
                                    replace q332 := eq_true q332
                                    have p333 : 0 ≤ ((ji53) : Int) := of_decide_eq_true (by first | (with_reducible assumption) | assumption)
                                    have q333 : (ji53) < (x5_2.length : Int) := of_decide_eq_true (by first | (with_reducible assumption) | assumption)
                                    obtain ⟨ad333, e333, hx333_0⟩ := Kd.at_int (Kd.R_reads' HO_5.out).2.2 (ji53) p333 q333
                                    obtain rfl : ad332 = ad333 := (by injection e333)
                                    replace p333 := eq_true p333
                                    replace q333 := eq_true q333
                                    have p56 : 0 ≤ ((ji53) : Int) := of_decide_eq_true (by first | (with_reducible assumption) | assumption)
                                    have q56 : ((ji53) : Int) < ((x5_2.length : Int) : Int) := of_decide_eq_true (by first | (with_reducible assumption) | assumption)
                                    obtain ⟨go56, co56, eo56, gb56, gl56, cl56, HG56⟩ := Kd.R_form HO_5.out (by omega)
                                    (first | cases eo56 | (injection eo56 with ea_ en_ ec_; (first | subst ea_ | (injection ea_ with ea_; subst ea_)); subst ec_; clear en_))
                                    have GB56 := Aside0.mk gb56
                                    have GG56 := Aside0.mk HG56
                                    clear gb56 gl56 HG56
                                    (first | simp only [add_plain] at hx332_0 | skip)
                                    (first | simp only [add_plain] at hx333_0 | skip)
                                    obtain ⟨hx56_0, hf56_0⟩ := Kd.R_celln 0 HO_5.out ((ji53) : Int) p56 q56
                                    replace p56 := eq_true p56
                                    replace q56 := eq_true q56
                                    have HP60 := Kd.R_putg HO_5.out ((ji53) : Int) (wrap64 ((rd x5_2 (ji53)) + 1))
                                    go_upto_region 19 with (first | ((with_reducible refine gate_store (t := 3) (p := 116) rfl ?_); refine store_event (t := 3) (p := 116) (v := ?vo_w61) (w1 := (wc.setCell ⟨go56, ((ji53) : Int).toNat, none⟩ (.int .i64 (wrap64 ((rd x5_2 (ji53)) + 1))))) ?hg ?ho ?hn ?hr ?_; (case ho => rfl); (case hg => rfl); (case hn => rfl); (case hr => first | (go_simp; done) | (go_simp; rfl)); intro w61 hw; have hg : wc.grownBy w61 (some go56) := (by rw [hw]; exact HP60.2); have hp_ : Kd.R (Kd.int .i64) 3 w61 w.heap.size (fun k_ => some k_ ≠ (v319 : Value).ownBlock) (.slice (some ⟨go56, 0, none⟩) x5_2.length co24) y334 := (by rw [hw, Ny334.out]; exact HP60.1); clear HP60; have n0_ := Aside0.mk (hp_); have n1_ := Aside0.mk (Kd.R_after (v := (.slice (some ⟨go56, 0, none⟩) x5_2.length co24)) (v1 := (.slice (some ⟨go56, 0, none⟩) x5_2.length co24)) (ok := (fun _ => True)) (by (with_reducible repeat (first | apply Kd.R_alloc | apply Kd.R_drewN | apply Kd.R_drew)); exact Kd.R_mono HO_8.out (fun _ hk => ⟨trivial, hk⟩)) hg (.inl rfl)); have n2_ := Aside0.mk ((by rw [hw]; exact below_set (HB.out) GB56.out : Below w.heap.size w w61)); clear HO_5; clear HO_8; clear HB; have HO_5 := n0_; have HO_8 := n1_; have HB := n2_; clear n0_ n1_ n2_; clear hg hw hp_) | ((with_reducible refine gate_callee (f := 22) rfl ?_); refine goesL_ (some 120) rfl rfl Try.func22 (by kernel_rfl) rfl #[.int .i64 (x5_2.length : Int)] rfl (by (try simp only [List.map_toArray, List.map_cons, List.map_nil]); first | done | rfl | (simp only [List.length_drop, List.length_take]; rfl)) ?_; (with_reducible refine (potsherdlaw7_all.calls kj41 (x5_2.length : Int) t335 _ A57.out).mono ?_); rintro e w62 ⟨v336, rfl, ho0, hb⟩; refine ⟨_, rfl, ?_⟩; have n0_ := Aside0.mk (Kd.R_below (by (with_reducible repeat (first | apply Kd.R_alloc | apply Kd.R_drewN | apply Kd.R_drew)); exact HO_5.out) hb); have n1_ := Aside0.mk (Kd.R_below (by (with_reducible repeat (first | apply Kd.R_alloc | apply Kd.R_drewN | apply Kd.R_drew)); exact HO_8.out) hb); have n2_ := Aside0.mk (Kd.R_lower ho0 (below_size (by repeat (first | (with_reducible first | exact HB.out | apply below_alloc | apply pw_below_drewN | apply below_drew1) | exact HB.out)))); have n3_ := Aside0.mk (below_step (by repeat (first | (with_reducible first | exact HB.out | apply below_alloc | apply pw_below_drewN | apply below_drew1) | exact HB.out)) hb); clear HO_5; clear HO_8; clear HB; have HO_5 := n0_; have HO_8 := n1_; have HO337 := n2_; have HB := n3_; clear n0_ n1_ n2_ n3_; (try clear hb); (try clear hb2); (try clear hk); (try clear hi); (try clear ho0); obtain ⟨Ao63, co63, eo63⟩ := Kd.R_slice HO337.out; subst eo63) | ((with_reducible refine gate_callee (f := 20) rfl ?_); refine goesL_ (some 121) rfl rfl Try.func20 (by kernel_rfl) rfl #[.slice (some ⟨go56, 0, none⟩) y334.length co24, .slice Ao63 t335.length co63] rfl (by (try simp only [List.map_toArray, List.map_cons, List.map_nil]); first | done | (rw [show y334.length = x5_2.length from (Kd.R_reads' HO_5.out).1.symm] <;> rfl) | rfl | (simp only [List.length_drop, List.length_take]; rfl)) ?_; (with_reducible refine (wear_Buckets.calls kj41 _ _ y334 _ _ t335 t338 _ ?side1 ?side2 ?side3 ?side4 A58.out).mono ?_); (case side1 => repeat (first | exact (Kd.R_reads' HO_5.out).2.2 | (with_reducible refine Kd.C_alloc ?_ _) | (with_reducible refine Kd.C_drewN ?_ _) | (with_reducible refine Kd.C_drew ?_))); (case side2 => rw [show y334.length = x5_2.length from (Kd.R_reads' HO_5.out).1.symm]; exact (Kd.R_reads' HO_5.out).2.1); (case side3 => repeat (first | exact (Kd.R_reads' HO337.out).2.2 | (with_reducible refine Kd.C_alloc ?_ _) | (with_reducible refine Kd.C_drewN ?_ _) | (with_reducible refine Kd.C_drew ?_))); (case side4 => exact (Kd.R_reads' HO337.out).2.1); rintro e w64 ⟨v339, rfl, ho0, hb⟩; refine ⟨_, rfl, ?_⟩; have n0_ := Aside0.mk (Kd.R_elder' (by (with_reducible repeat (first | apply Kd.R_alloc | apply Kd.R_drewN | apply Kd.R_drew)); exact HO_5.out) (Kd.R_base ho0) hb); have n1_ := Aside0.mk (Kd.R_elder' (by (with_reducible repeat (first | apply Kd.R_alloc | apply Kd.R_drewN | apply Kd.R_drew)); exact HO_8.out) (Kd.R_base ho0) hb); have n2_ := Aside0.mk (Kd.R_below (by (with_reducible repeat (first | apply Kd.R_alloc | apply Kd.R_drewN | apply Kd.R_drew)); exact HO337.out) hb); have n3_ := Aside0.mk (Kd.R_lower (Kd.R_new' (Kd.R_new' ho0 (Kd.R_lt (by (with_reducible repeat (first | apply Kd.R_alloc | apply Kd.R_drewN | apply Kd.R_drew)); exact HO_5.out))) (Kd.R_lt (by (with_reducible repeat (first | apply Kd.R_alloc | apply Kd.R_drewN | apply Kd.R_drew)); exact HO_8.out))) (below_size (by repeat (first | (with_reducible first | exact HB.out | apply below_alloc | apply pw_below_drewN | apply below_drew1) | exact HB.out)))); have n4_ := Aside0.mk (below_step (by repeat (first | (with_reducible first | exact HB.out | apply below_alloc | apply pw_below_drewN | apply below_drew1) | exact HB.out)) hb); clear HO_5; clear HO_8; clear HO337; clear HB; have HO_5 := n0_; have HO_8 := n1_; have HO337 := n2_; have HO340 := n3_; have HB := n4_; clear n0_ n1_ n2_ n3_ n4_; (try clear hb); (try clear hb2); (try clear hk); (try clear hi); (try clear ho0)))
                                    (try simp only [Act.put, List.setIfInBounds_toArray, List.set_cons_zero, List.set_cons_succ])
                                    go_cut [137] (fun v137 wc => ∃ (kq : Nat) (x137_58 : Bool), v137 = .bool x137_58 ∧ Aside0 (potsherdlaw7_WearBuckets.j4 kq t318 (wrap64 ((rd x5_2 (ji53)) - t324)) t338 x137_58 = some r) ∧ Aside0 (kq ≤ kj41) ∧ Aside0 (Kd.R (Kd.int .i64) 3 wc w.heap.size (fun k_ => some k_ ≠ (v339 : Value).ownBlock) v319 t318) ∧ Aside0 (Kd.R (Kd.int .i64) 3 wc w.heap.size (fun k_ => some k_ ≠ (v319 : Value).ownBlock) v339 t338) ∧ Aside0 (Below w.heap.size w wc))
                                    case first =>
                                      have H := HC59.out
                                      clear HC59
                                      by_cases c65 : (t338.length : Int) = (t318.length : Int)
                                      · rw [if_pos c65] at H
                                        have c65b0 : ((t338.length : Int) == (t318.length : Int)) = true := beq_iff_eq.mpr c65
                                        have c65b1 : ((t338.length : Int) != (t318.length : Int)) = false := bne_eq_false_iff_eq.mpr c65
                                        have c65b2 : (t338.length == t318.length) = true := by first | simpa using c65 | (simp at c65 ⊢; omega)
                                        clear c65
                                        (first | rw [c65b0] | (simp only [i64_w, i32_w]; rw [c65b0]) | skip)
                                        by_cases c66 : (wrap64 ((rd x5_2 (ji53)) - t324)) < 0
                                        · rw [if_pos c66] at H
                                          have c66b0 : decide ((wrap64 ((rd x5_2 (ji53)) - t324)) < 0) = true := decide_eq_true c66
                                          clear c66
                                          have H' := Aside0.mk H
                                          clear H
                                          obtain ⟨Ao67, co67, eo67⟩ := Kd.R_slice HO340.out
                                          subst eo67
                                          obtain ⟨Ao68, co68, eo68⟩ := Kd.R_slice HO_8.out
                                          subst eo68
                                          go_wp2
                                          go_meet
                                          case rel => exact ⟨_, (true), (by first | rfl | (simp; done) | (simp [*]; done)), H', ⟨by have := HJ2.out; have := HK2.out; have := HJ22.out; have := HJ41.out; first | omega | exact Nat.le_refl _⟩, ⟨by (with_reducible repeat (first | apply Kd.R_alloc | apply Kd.R_drewN | apply Kd.R_drew)); exact Kd.R_mono HO_8.out (fun _ hk => hk.2)⟩, ⟨by (with_reducible repeat (first | apply Kd.R_alloc | apply Kd.R_drewN | apply Kd.R_drew)); exact Kd.R_mono HO340.out (fun _ hk => hk.2)⟩, ⟨by repeat (first | (with_reducible first | exact HB.out | apply below_alloc | apply pw_below_drewN | apply below_drew1) | exact HB.out)⟩⟩
                                        · rw [if_neg c66] at H
                                          have c66b0 : decide ((wrap64 ((rd x5_2 (ji53)) - t324)) < 0) = false := decide_eq_false c66
                                          clear c66
                                          have H' := Aside0.mk H
                                          clear H
                                          obtain ⟨Ao69, co69, eo69⟩ := Kd.R_slice HO340.out
                                          subst eo69
                                          obtain ⟨Ao70, co70, eo70⟩ := Kd.R_slice HO_8.out
                                          subst eo70
                                          go_wp2
                                          go_meet
                                          case rel => exact ⟨_, (decide ((wrap64 ((wrap64 ((rd x5_2 (ji53)) - t324)) + 1)) ≥ (t318.length : Int))), (by first | rfl | (simp; done) | (simp [← hji53, mn, mx]; done) | (simp only [← hji53] <;> (first | rfl | simp)) | (simp [*]; done)), H', ⟨by have := HJ2.out; have := HK2.out; have := HJ22.out; have := HJ41.out; first | omega | exact Nat.le_refl _⟩, ⟨by (with_reducible repeat (first | apply Kd.R_alloc | apply Kd.R_drewN | apply Kd.R_drew)); exact Kd.R_mono HO_8.out (fun _ hk => hk.2)⟩, ⟨by (with_reducible repeat (first | apply Kd.R_alloc | apply Kd.R_drewN | apply Kd.R_drew)); exact Kd.R_mono HO340.out (fun _ hk => hk.2)⟩, ⟨by repeat (first | (with_reducible first | exact HB.out | apply below_alloc | apply pw_below_drewN | apply below_drew1) | exact HB.out)⟩⟩
                                      · rw [if_neg c65] at H
                                        have c65b0 : ((t338.length : Int) == (t318.length : Int)) = false := beq_eq_false_iff_ne.mpr c65
                                        have c65b1 : ((t338.length : Int) != (t318.length : Int)) = true := bne_iff_ne.mpr c65
                                        have c65b2 : (t338.length == t318.length) = false := by first | simpa using c65 | (simp at c65 ⊢; omega)
                                        (first | rw [c65b0] | (simp only [i64_w, i32_w]; rw [c65b0]) | skip)
                                        have H' := Aside0.mk H
                                        clear H
                                        obtain ⟨Ao71, co71, eo71⟩ := Kd.R_slice HO340.out
                                        subst eo71
                                        obtain ⟨Ao72, co72, eo72⟩ := Kd.R_slice HO_8.out
                                        subst eo72
                                        go_wp2
                                        go_meet
                                        case rel => exact ⟨_, (true), (by first | rfl | (simp; done) | (simp [*]; done)), H', ⟨by have := HJ2.out; have := HK2.out; have := HJ22.out; have := HJ41.out; first | omega | exact Nat.le_refl _⟩, ⟨by (with_reducible repeat (first | apply Kd.R_alloc | apply Kd.R_drewN | apply Kd.R_drew)); exact Kd.R_mono HO_8.out (fun _ hk => hk.2)⟩, ⟨by (with_reducible repeat (first | apply Kd.R_alloc | apply Kd.R_drewN | apply Kd.R_drew)); exact Kd.R_mono HO340.out (fun _ hk => hk.2)⟩, ⟨by repeat (first | (with_reducible first | exact HB.out | apply below_alloc | apply pw_below_drewN | apply below_drew1) | exact HB.out)⟩⟩
                                    case rest =>
                                      clear HC59
                                      try clear c1
                                      try clear p1
                                      try clear q1
                                      try clear hx1
                                      try clear c2
                                      try clear p2
                                      try clear c3
                                      try clear p3
                                      try clear q3
                                      try clear hx3
                                      try clear qi3
                                      try clear c4
                                      try clear c4b0
                                      try clear c4b1
                                      try clear c5
                                      try clear p5
                                      try clear q5
                                      try clear hx5
                                      try clear hf5
                                      try clear c6
                                      try clear p6
                                      try clear c7
                                      try clear c8
                                      try clear c8b0
                                      try clear c8b1
                                      try clear c9
                                      try clear c9b0
                                      try clear c9b1
                                      try clear c12
                                      try clear c12b0
                                      try clear c13
                                      try clear c13b0
                                      try clear c14
                                      try clear c14b0
                                      try clear c15
                                      try clear c15b0
                                      try clear p16
                                      try clear q16
                                      try clear hx16
                                      try clear hf16
                                      try clear c20
                                      try clear c22
                                      try clear c31
                                      try clear c31b0
                                      try clear c31b1
                                      try clear p31
                                      try clear q31
                                      try clear hx31
                                      try clear c32
                                      try clear c32b0
                                      try clear c32b1
                                      try clear p32
                                      try clear q32
                                      try clear hx32
                                      try clear qi32
                                      try clear c33
                                      try clear c33b0
                                      try clear p33
                                      try clear q33
                                      try clear hx33
                                      try clear qi33
                                      try clear c36
                                      try clear c36b0
                                      try clear c37
                                      try clear c37b0
                                      try clear c40
                                      try clear c41
                                      try clear c41b0
                                      try clear c41b1
                                      try clear c44
                                      try clear c44b0
                                      try clear c45
                                      try clear c45b0
                                      try clear c46
                                      try clear c46b0
                                      try clear c46b1
                                      try clear c47
                                      try clear c47b0
                                      try clear c47b1
                                      try clear c48
                                      try clear c48b0
                                      try clear c48b1
                                      try clear c50
                                      try clear c54
                                      try clear c54b0
                                      try clear c55
                                      try clear c55b0
                                      try clear p56
                                      try clear q56
                                      try clear hx56
                                      try clear hf56
                                      try clear p64
                                      try clear c65
                                      try clear c65b0
                                      try clear c65b1
                                      try clear c65b2
                                      try clear c66
                                      try clear c66b0
                                      try clear hx16_0
                                      try clear hx313_0
                                      try clear hx326_0
                                      try clear hx327_0
                                      try clear hx328_0
                                      try clear hx329_0
                                      try clear hx330_0
                                      try clear hx332_0
                                      try clear hx333_0
                                      try clear hx56_0
                                      try clear p1
                                      try clear p16
                                      try clear p2
                                      try clear p3
                                      try clear p31
                                      try clear p313
                                      try clear p32
                                      try clear p326
                                      try clear p327
                                      try clear p328
                                      try clear p329
                                      try clear p33
                                      try clear p330
                                      try clear p332
                                      try clear p333
                                      try clear p56
                                      try clear p6
                                      try clear q1
                                      try clear q16
                                      try clear q3
                                      try clear q31
                                      try clear q313
                                      try clear q32
                                      try clear q326
                                      try clear q327
                                      try clear q328
                                      try clear q329
                                      try clear q33
                                      try clear q330
                                      try clear q332
                                      try clear q333
                                      try clear q56
                                      obtain ⟨kq, x137_58, rfl, HA, HJ58, HO_8, HO_12, HB⟩ := hcut
                                      cases kq with
                                      | zero => exact absurd HA.out (by simp [potsherdlaw7_WearBuckets.j4])
                                      | succ kj58 =>
                                        have H := HA.out
                                        clear HA
                                        simp only [potsherdlaw7_WearBuckets.j4] at H
                                        by_cases c73 : x137_58 = true
                                        · subst c73
                                          have H1 : (some false) = some r := by rw [if_pos rfl] at H; exact H
                                          clear H
                                          have H := H1
                                          clear H1
                                          obtain rfl := Option.some.inj H
                                          go_wp2
                                          go_ret
                                          exact ⟨by first | rfl | (simp [errW_none, errW_some] <;> rfl) | (simp only [← hji53]; first | rfl | (simp [errW_none, errW_some] <;> rfl)) | (simp [*, errW_none, errW_some] <;> rfl), by repeat (first | (with_reducible first | exact HB.out | apply below_alloc | apply pw_below_drewN | apply below_drew1) | exact HB.out)⟩
                                        · replace c73 := Bool.eq_false_iff.mpr c73
                                          subst c73
                                          have H1 : (potsherdlaw7_WearBuckets.l1 kj58 t318 (wrap64 ((rd x5_2 (ji53)) - t324)) t338 (t318.length : Int) 0) = some r := by rw [if_neg (show ¬ (false = true) by decide)] at H; exact H
                                          clear H
                                          have H := H1
                                          clear H1
                                          have H' := Aside0.mk H
                                          clear H
                                          obtain ⟨Ao74, co74, eo74⟩ := Kd.R_slice HO_8.out
                                          subst eo74
                                          go_wp2
                                          go_loopg [140] kj58 (fun kq v140 w' => ∃ (x140_6 : Int), v140 = .int .i64 x140_6 ∧ Aside0 (potsherdlaw7_WearBuckets.l1 kq t318 (wrap64 ((rd x5_2 (ji53)) - t324)) t338 (t318.length : Int) x140_6 = some r) ∧ Aside0 (kq ≤ kj58) ∧ Aside0 (Kd.R (Kd.int .i64) 3 w' w.heap.size (fun k_ => some k_ ≠ (v339 : Value).ownBlock) (.slice Ao74 t318.length co74) t318) ∧ Aside0 (Kd.R (Kd.int .i64) 3 w' w.heap.size (fun k_ => some k_ ≠ ((.slice Ao74 t318.length co74) : Value).ownBlock) v339 t338) ∧ Aside0 (Below w.heap.size w w'))
                                          case atStart => exact ⟨(0), (by first | rfl | (simp; done) | (simp [*]; done)), H', ⟨Nat.le_refl _⟩, ⟨by (with_reducible repeat (first | apply Kd.R_alloc | apply Kd.R_drewN | apply Kd.R_drew)); exact HO_8.out⟩, ⟨by (with_reducible repeat (first | apply Kd.R_alloc | apply Kd.R_drewN | apply Kd.R_drew)); exact HO_12.out⟩, ⟨by repeat (first | (with_reducible first | exact HB.out | apply below_alloc | apply pw_below_drewN | apply below_drew1) | exact HB.out)⟩⟩
                                          case round =>
                                            clear H'
                                            try clear c1
                                            try clear p1
                                            try clear q1
                                            try clear hx1
                                            try clear c2
                                            try clear p2
                                            try clear c3
                                            try clear p3
                                            try clear q3
                                            try clear hx3
                                            try clear qi3
                                            try clear c4
                                            try clear c4b0
                                            try clear c4b1
                                            try clear c5
                                            try clear p5
                                            try clear q5
                                            try clear hx5
                                            try clear hf5
                                            try clear c6
                                            try clear p6
                                            try clear c7
                                            try clear c8
                                            try clear c8b0
                                            try clear c8b1
                                            try clear c9
                                            try clear c9b0
                                            try clear c9b1
                                            try clear c12
                                            try clear c12b0
                                            try clear c13
                                            try clear c13b0
                                            try clear c14
                                            try clear c14b0
                                            try clear c15
                                            try clear c15b0
                                            try clear p16
                                            try clear q16
                                            try clear hx16
                                            try clear hf16
                                            try clear c20
                                            try clear c22
                                            try clear c31
                                            try clear c31b0
                                            try clear c31b1
                                            try clear p31
                                            try clear q31
                                            try clear hx31
                                            try clear c32
                                            try clear c32b0
                                            try clear c32b1
                                            try clear p32
                                            try clear q32
                                            try clear hx32
                                            try clear qi32
                                            try clear c33
                                            try clear c33b0
                                            try clear p33
                                            try clear q33
                                            try clear hx33
                                            try clear qi33
                                            try clear c36
                                            try clear c36b0
                                            try clear c37
                                            try clear c37b0
                                            try clear c40
                                            try clear c41
                                            try clear c41b0
                                            try clear c41b1
                                            try clear c44
                                            try clear c44b0
                                            try clear c45
                                            try clear c45b0
                                            try clear c46
                                            try clear c46b0
                                            try clear c46b1
                                            try clear c47
                                            try clear c47b0
                                            try clear c47b1
                                            try clear c48
                                            try clear c48b0
                                            try clear c48b1
                                            try clear c50
                                            try clear c54
                                            try clear c54b0
                                            try clear c55
                                            try clear c55b0
                                            try clear p56
                                            try clear q56
                                            try clear hx56
                                            try clear hf56
                                            try clear p64
                                            try clear c65
                                            try clear c65b0
                                            try clear c65b1
                                            try clear c65b2
                                            try clear c66
                                            try clear c66b0
                                            try clear c73
                                            try clear hx16_0
                                            try clear hx313_0
                                            try clear hx326_0
                                            try clear hx327_0
                                            try clear hx328_0
                                            try clear hx329_0
                                            try clear hx330_0
                                            try clear hx332_0
                                            try clear hx333_0
                                            try clear hx56_0
                                            try clear p1
                                            try clear p16
                                            try clear p2
                                            try clear p3
                                            try clear p31
                                            try clear p313
                                            try clear p32
                                            try clear p326
                                            try clear p327
                                            try clear p328
                                            try clear p329
                                            try clear p33
                                            try clear p330
                                            try clear p332
                                            try clear p333
                                            try clear p5
                                            try clear p56
                                            try clear p6
                                            try clear p64
                                            try clear q1
                                            try clear q16
                                            try clear q3
                                            try clear q31
                                            try clear q313
                                            try clear q32
                                            try clear q326
                                            try clear q327
                                            try clear q328
                                            try clear q329
                                            try clear q33
                                            try clear q330
                                            try clear q332
                                            try clear q333
                                            try clear q5
                                            try clear q56
                                            obtain ⟨x140_6, rfl, HA, HK6, HO_8, HO_12, HB⟩ := hrel
                                            cases gk with
                                            | zero => exact absurd HA.out (by simp [potsherdlaw7_WearBuckets.l1])
                                            | succ k6 =>
                                              have H := HA.out
                                              clear HA
                                              simp only [potsherdlaw7_WearBuckets.l1] at H
                                              by_cases c75 : x140_6 < (t318.length : Int)
                                              · rw [if_pos c75] at H
                                                have c75b0 : decide (x140_6 < (t318.length : Int)) = true := decide_eq_true c75
                                                clear c75
                                                by_cases c76 : 0 ≤ x140_6
                                                · rw [if_pos c76] at H
                                                  have c76b0 : decide (0 ≤ x140_6) = true := decide_eq_true c76
                                                  clear c76
                                                  by_cases c77 : x140_6 < (t318.length : Int)
                                                  · rw [if_pos c77] at H
                                                    have c77b0 : decide (x140_6 < (t318.length : Int)) = true := decide_eq_true c77
                                                    clear c77
                                                    have HC78 := Aside0.mk H
                                                    clear H
                                                    have p342 : 0 ≤ (x140_6 : Int) := of_decide_eq_true (by first | (with_reducible assumption) | assumption)
                                                    have q342 : x140_6 < (t318.length : Int) := of_decide_eq_true (by first | (with_reducible assumption) | assumption)
                                                    obtain ⟨ad342, e342, hx342_0⟩ := Kd.at_int (Kd.R_reads' HO_8.out).2.2 x140_6 p342 q342
                                                    cases e342
                                                    replace p342 := eq_true p342
                                                    replace q342 := eq_true q342
                                                    go_upto_if 149 with (fail)
                                                    go_cut [14] (fun v14 wc => ∃ (kq : Nat) (x14_77 : Int), v14 = .int .i64 x14_77 ∧ Aside0 (potsherdlaw7_WearBuckets.j6 kq t318 (wrap64 ((rd x5_2 (ji53)) - t324)) t338 x140_6 x14_77 (t318.length : Int) x140_6 = some r) ∧ Aside0 (kq ≤ k6) ∧ Aside0 (Kd.R (Kd.int .i64) 3 wc w.heap.size (fun k_ => some k_ ≠ (v339 : Value).ownBlock) (.slice (some ad342) t318.length co74) t318) ∧ Aside0 (Kd.R (Kd.int .i64) 3 wc w.heap.size (fun k_ => some k_ ≠ ((.slice (some ad342) t318.length co74) : Value).ownBlock) v339 t338) ∧ Aside0 (Below w.heap.size w wc))
                                                    case first =>
                                                      have H := HC78.out
                                                      clear HC78
                                                      by_cases c79 : x140_6 = (wrap64 ((rd x5_2 (ji53)) - t324))
                                                      · rw [if_pos c79] at H
                                                        have c79b0 : (x140_6 == (wrap64 ((rd x5_2 (ji53)) - t324))) = true := beq_iff_eq.mpr c79
                                                        have c79b1 : (x140_6 != (wrap64 ((rd x5_2 (ji53)) - t324))) = false := bne_eq_false_iff_eq.mpr c79
                                                        clear c79
                                                        (first | rw [c79b0] | (simp only [i64_w, i32_w]; rw [c79b0]) | skip)
                                                        have H' := Aside0.mk H
                                                        clear H
                                                        go_wp2
                                                        go_meet
                                                        case rel => exact ⟨_, (wrap64 ((rd t318 x140_6) - 1)), (by first | rfl | (simp; done) | (simp [*]; done)), H', ⟨by have := HJ2.out; have := HK2.out; have := HJ22.out; have := HJ41.out; have := HJ58.out; have := HK6.out; first | omega | exact Nat.le_refl _⟩, ⟨by (with_reducible repeat (first | apply Kd.R_alloc | apply Kd.R_drewN | apply Kd.R_drew)); exact HO_8.out⟩, ⟨by (with_reducible repeat (first | apply Kd.R_alloc | apply Kd.R_drewN | apply Kd.R_drew)); exact HO_12.out⟩, ⟨by repeat (first | (with_reducible first | exact HB.out | apply below_alloc | apply pw_below_drewN | apply below_drew1) | exact HB.out)⟩⟩
                                                      · rw [if_neg c79] at H
                                                        have c79b0 : (x140_6 == (wrap64 ((rd x5_2 (ji53)) - t324))) = false := beq_eq_false_iff_ne.mpr c79
                                                        have c79b1 : (x140_6 != (wrap64 ((rd x5_2 (ji53)) - t324))) = true := bne_iff_ne.mpr c79
                                                        (first | rw [c79b0] | (simp only [i64_w, i32_w]; rw [c79b0]) | skip)
                                                        have H' := Aside0.mk H
                                                        clear H
                                                        go_wp2
                                                        go_meet
                                                        case rel => exact ⟨_, (rd t318 x140_6), (by first | rfl | (simp; done) | (simp [*]; done)), H', ⟨by have := HJ2.out; have := HK2.out; have := HJ22.out; have := HJ41.out; have := HJ58.out; have := HK6.out; first | omega | exact Nat.le_refl _⟩, ⟨by (with_reducible repeat (first | apply Kd.R_alloc | apply Kd.R_drewN | apply Kd.R_drew)); exact HO_8.out⟩, ⟨by (with_reducible repeat (first | apply Kd.R_alloc | apply Kd.R_drewN | apply Kd.R_drew)); exact HO_12.out⟩, ⟨by repeat (first | (with_reducible first | exact HB.out | apply below_alloc | apply pw_below_drewN | apply below_drew1) | exact HB.out)⟩⟩
                                                    case rest =>
                                                      clear HC78
                                                      try clear c1
                                                      try clear p1
                                                      try clear q1
                                                      try clear hx1
                                                      try clear c2
                                                      try clear p2
                                                      try clear c3
                                                      try clear p3
                                                      try clear q3
                                                      try clear hx3
                                                      try clear qi3
                                                      try clear c4
                                                      try clear c4b0
                                                      try clear c4b1
                                                      try clear c5
                                                      try clear p5
                                                      try clear q5
                                                      try clear hx5
                                                      try clear hf5
                                                      try clear c6
                                                      try clear p6
                                                      try clear c7
                                                      try clear c8
                                                      try clear c8b0
                                                      try clear c8b1
                                                      try clear c9
                                                      try clear c9b0
                                                      try clear c9b1
                                                      try clear c12
                                                      try clear c12b0
                                                      try clear c13
                                                      try clear c13b0
                                                      try clear c14
                                                      try clear c14b0
                                                      try clear c15
                                                      try clear c15b0
                                                      try clear p16
                                                      try clear q16
                                                      try clear hx16
                                                      try clear hf16
                                                      try clear c20
                                                      try clear c22
                                                      try clear c31
                                                      try clear c31b0
                                                      try clear c31b1
                                                      try clear p31
                                                      try clear q31
                                                      try clear hx31
                                                      try clear c32
                                                      try clear c32b0
                                                      try clear c32b1
                                                      try clear p32
                                                      try clear q32
                                                      try clear hx32
                                                      try clear qi32
                                                      try clear c33
                                                      try clear c33b0
                                                      try clear p33
                                                      try clear q33
                                                      try clear hx33
                                                      try clear qi33
                                                      try clear p34
                                                      try clear q34
                                                      try clear hx34
                                                      try clear c36
                                                      try clear c36b0
                                                      try clear c37
                                                      try clear c37b0
                                                      try clear c40
                                                      try clear c41
                                                      try clear c41b0
                                                      try clear c41b1
                                                      try clear c44
                                                      try clear c44b0
                                                      try clear c45
                                                      try clear c45b0
                                                      try clear c46
                                                      try clear c46b0
                                                      try clear c46b1
                                                      try clear c47
                                                      try clear c47b0
                                                      try clear c47b1
                                                      try clear c48
                                                      try clear c48b0
                                                      try clear c48b1
                                                      try clear c50
                                                      try clear c54
                                                      try clear c54b0
                                                      try clear c55
                                                      try clear c55b0
                                                      try clear p56
                                                      try clear q56
                                                      try clear hx56
                                                      try clear hf56
                                                      try clear p64
                                                      try clear c65
                                                      try clear c65b0
                                                      try clear c65b1
                                                      try clear c65b2
                                                      try clear c66
                                                      try clear c66b0
                                                      try clear c73
                                                      try clear c75
                                                      try clear c75b0
                                                      try clear c76
                                                      try clear c76b0
                                                      try clear c77
                                                      try clear c77b0
                                                      try clear c79
                                                      try clear c79b0
                                                      try clear c79b1
                                                      try clear hx16_0
                                                      try clear hx313_0
                                                      try clear hx326_0
                                                      try clear hx327_0
                                                      try clear hx328_0
                                                      try clear hx329_0
                                                      try clear hx330_0
                                                      try clear hx332_0
                                                      try clear hx333_0
                                                      try clear hx342_0
                                                      try clear hx56_0
                                                      try clear p1
                                                      try clear p16
                                                      try clear p2
                                                      try clear p3
                                                      try clear p31
                                                      try clear p313
                                                      try clear p32
                                                      try clear p326
                                                      try clear p327
                                                      try clear p328
                                                      try clear p329
                                                      try clear p33
                                                      try clear p330
                                                      try clear p332
                                                      try clear p333
                                                      try clear p342
                                                      try clear p5
                                                      try clear p56
                                                      try clear p6
                                                      try clear p64
                                                      try clear q1
                                                      try clear q16
                                                      try clear q3
                                                      try clear q31
                                                      try clear q313
                                                      try clear q32
                                                      try clear q326
                                                      try clear q327
                                                      try clear q328
                                                      try clear q329
                                                      try clear q33
                                                      try clear q330
                                                      try clear q332
                                                      try clear q333
                                                      try clear q342
                                                      try clear q5
                                                      try clear q56
                                                      obtain ⟨kq, x14_77, rfl, HA, HJ77, HO_8, HO_12, HB⟩ := hcut
                                                      cases kq with
                                                      | zero => exact absurd HA.out (by simp [potsherdlaw7_WearBuckets.j6])
                                                      | succ kj77 =>
                                                        have H := HA.out
                                                        clear HA
                                                        simp only [potsherdlaw7_WearBuckets.j6] at H
                                                        by_cases c80 : x140_6 = (wrap64 ((wrap64 ((rd x5_2 (ji53)) - t324)) + 1))
                                                        · rw [if_pos c80] at H
                                                          have c80b0 : (x140_6 == (wrap64 ((wrap64 ((rd x5_2 (ji53)) - t324)) + 1))) = true := beq_iff_eq.mpr c80
                                                          have c80b1 : (x140_6 != (wrap64 ((wrap64 ((rd x5_2 (ji53)) - t324)) + 1))) = false := bne_eq_false_iff_eq.mpr c80
                                                          clear c80
                                                          by_cases c81 : 0 ≤ x140_6
                                                          · rw [if_pos c81] at H
                                                            have c81b0 : decide (0 ≤ x140_6) = true := decide_eq_true c81
                                                            clear c81
                                                            by_cases c82 : x140_6 < (t338.length : Int)
                                                            · rw [if_pos c82] at H
                                                              have c82b0 : decide (x140_6 < (t338.length : Int)) = true := decide_eq_true c82
                                                              clear c82
                                                              by_cases c83 : (rd t338 x140_6) = (wrap64 (x14_77 + 1))
                                                              · rw [if_pos c83] at H
                                                                have c83b0 : ((rd t338 x140_6) == (wrap64 (x14_77 + 1))) = true := beq_iff_eq.mpr c83
                                                                have c83b1 : ((rd t338 x140_6) != (wrap64 (x14_77 + 1))) = false := bne_eq_false_iff_eq.mpr c83
                                                                clear c83
                                                                have H' := Aside0.mk H
                                                                clear H
                                                                obtain ⟨Ao84, co84, eo84⟩ := Kd.R_slice HO_12.out
                                                                subst eo84
                                                                have p343 : 0 ≤ (x140_6 : Int) := of_decide_eq_true (by first | (with_reducible assumption) | assumption)
                                                                have q343 : x140_6 < (t338.length : Int) := of_decide_eq_true (by first | (with_reducible assumption) | assumption)
                                                                obtain ⟨ad343, e343, hx343_0⟩ := Kd.at_int (Kd.R_reads' HO_12.out).2.2 x140_6 p343 q343
                                                                cases e343
                                                                replace p343 := eq_true p343
                                                                replace q343 := eq_true q343
                                                                go_wp2
                                                                go_roundg kj77
                                                                case measure => have := HJ2.out; have := HK2.out; have := HJ22.out; have := HJ41.out; have := HJ58.out; have := HK6.out; have := HJ77.out; omega
                                                                case rel => exact ⟨(wrap64 (x140_6 + 1)), (by first | rfl | (simp; done) | (simp [*]; done)), H', ⟨by have := HJ2.out; have := HK2.out; have := HJ22.out; have := HJ41.out; have := HJ58.out; have := HK6.out; have := HJ77.out; omega⟩, ⟨by (with_reducible repeat (first | apply Kd.R_alloc | apply Kd.R_drewN | apply Kd.R_drew)); exact HO_8.out⟩, ⟨by (with_reducible repeat (first | apply Kd.R_alloc | apply Kd.R_drewN | apply Kd.R_drew)); exact HO_12.out⟩, ⟨by repeat (first | (with_reducible first | exact HB.out | apply below_alloc | apply pw_below_drewN | apply below_drew1) | exact HB.out)⟩⟩
                                                              · rw [if_neg c83] at H
                                                                have c83b0 : ((rd t338 x140_6) == (wrap64 (x14_77 + 1))) = false := beq_eq_false_iff_ne.mpr c83
                                                                have c83b1 : ((rd t338 x140_6) != (wrap64 (x14_77 + 1))) = true := bne_iff_ne.mpr c83
                                                                obtain rfl := Option.some.inj H
                                                                obtain ⟨Ao85, co85, eo85⟩ := Kd.R_slice HO_12.out
                                                                subst eo85
                                                                have p343 : 0 ≤ (x140_6 : Int) := of_decide_eq_true (by first | (with_reducible assumption) | assumption)
                                                                have q343 : x140_6 < (t338.length : Int) := of_decide_eq_true (by first | (with_reducible assumption) | assumption)
                                                                obtain ⟨ad343, e343, hx343_0⟩ := Kd.at_int (Kd.R_reads' HO_12.out).2.2 x140_6 p343 q343
                                                                cases e343
                                                                replace p343 := eq_true p343
                                                                replace q343 := eq_true q343
                                                                go_wp2
                                                                go_ret
                                                                exact ⟨by first | rfl | (simp [errW_none, errW_some] <;> rfl) | (simp only [← hji53]; first | rfl | (simp [errW_none, errW_some] <;> rfl)) | (simp [*, errW_none, errW_some] <;> rfl), by repeat (first | (with_reducible first | exact HB.out | apply below_alloc | apply pw_below_drewN | apply below_drew1) | exact HB.out)⟩
                                                            · rw [if_neg c82] at H
                                                              exact absurd H (by simp)
                                                          · rw [if_neg c81] at H
                                                            exact absurd H (by simp)
                                                        · rw [if_neg c80] at H
                                                          have c80b0 : (x140_6 == (wrap64 ((wrap64 ((rd x5_2 (ji53)) - t324)) + 1))) = false := beq_eq_false_iff_ne.mpr c80
                                                          have c80b1 : (x140_6 != (wrap64 ((wrap64 ((rd x5_2 (ji53)) - t324)) + 1))) = true := bne_iff_ne.mpr c80
                                                          by_cases c86 : 0 ≤ x140_6
                                                          · rw [if_pos c86] at H
                                                            have c86b0 : decide (0 ≤ x140_6) = true := decide_eq_true c86
                                                            clear c86
                                                            by_cases c87 : x140_6 < (t338.length : Int)
                                                            · rw [if_pos c87] at H
                                                              have c87b0 : decide (x140_6 < (t338.length : Int)) = true := decide_eq_true c87
                                                              clear c87
                                                              by_cases c88 : (rd t338 x140_6) = x14_77
                                                              · rw [if_pos c88] at H
                                                                have c88b0 : ((rd t338 x140_6) == x14_77) = true := beq_iff_eq.mpr c88
                                                                have c88b1 : ((rd t338 x140_6) != x14_77) = false := bne_eq_false_iff_eq.mpr c88
                                                                clear c88
                                                                have H' := Aside0.mk H
                                                                clear H
                                                                obtain ⟨Ao89, co89, eo89⟩ := Kd.R_slice HO_12.out
                                                                subst eo89
                                                                have p344 : 0 ≤ (x140_6 : Int) := of_decide_eq_true (by first | (with_reducible assumption) | assumption)
                                                                have q344 : x140_6 < (t338.length : Int) := of_decide_eq_true (by first | (with_reducible assumption) | assumption)
                                                                obtain ⟨ad344, e344, hx344_0⟩ := Kd.at_int (Kd.R_reads' HO_12.out).2.2 x140_6 p344 q344
                                                                cases e344
                                                                replace p344 := eq_true p344
                                                                replace q344 := eq_true q344
                                                                go_wp2
                                                                go_roundg kj77
                                                                case measure => have := HJ2.out; have := HK2.out; have := HJ22.out; have := HJ41.out; have := HJ58.out; have := HK6.out; have := HJ77.out; omega
                                                                case rel => exact ⟨(wrap64 (x140_6 + 1)), (by first | rfl | (simp; done) | (simp [*]; done)), H', ⟨by have := HJ2.out; have := HK2.out; have := HJ22.out; have := HJ41.out; have := HJ58.out; have := HK6.out; have := HJ77.out; omega⟩, ⟨by (with_reducible repeat (first | apply Kd.R_alloc | apply Kd.R_drewN | apply Kd.R_drew)); exact HO_8.out⟩, ⟨by (with_reducible repeat (first | apply Kd.R_alloc | apply Kd.R_drewN | apply Kd.R_drew)); exact HO_12.out⟩, ⟨by repeat (first | (with_reducible first | exact HB.out | apply below_alloc | apply pw_below_drewN | apply below_drew1) | exact HB.out)⟩⟩
                                                              · rw [if_neg c88] at H
                                                                have c88b0 : ((rd t338 x140_6) == x14_77) = false := beq_eq_false_iff_ne.mpr c88
                                                                have c88b1 : ((rd t338 x140_6) != x14_77) = true := bne_iff_ne.mpr c88
                                                                obtain rfl := Option.some.inj H
                                                                obtain ⟨Ao90, co90, eo90⟩ := Kd.R_slice HO_12.out
                                                                subst eo90
                                                                have p344 : 0 ≤ (x140_6 : Int) := of_decide_eq_true (by first | (with_reducible assumption) | assumption)
                                                                have q344 : x140_6 < (t338.length : Int) := of_decide_eq_true (by first | (with_reducible assumption) | assumption)
                                                                obtain ⟨ad344, e344, hx344_0⟩ := Kd.at_int (Kd.R_reads' HO_12.out).2.2 x140_6 p344 q344
                                                                cases e344
                                                                replace p344 := eq_true p344
                                                                replace q344 := eq_true q344
                                                                go_wp2
                                                                go_ret
                                                                exact ⟨by first | rfl | (simp [errW_none, errW_some] <;> rfl) | (simp only [← hji53]; first | rfl | (simp [errW_none, errW_some] <;> rfl)) | (simp [*, errW_none, errW_some] <;> rfl), by repeat (first | (with_reducible first | exact HB.out | apply below_alloc | apply pw_below_drewN | apply below_drew1) | exact HB.out)⟩
                                                            · rw [if_neg c87] at H
                                                              exact absurd H (by simp)
                                                          · rw [if_neg c86] at H
                                                            exact absurd H (by simp)
                                                  · rw [if_neg c77] at H
                                                    exact absurd H (by simp)
                                                · rw [if_neg c76] at H
                                                  exact absurd H (by simp)
                                              · rw [if_neg c75] at H
                                                have c75b0 : decide (x140_6 < (t318.length : Int)) = false := decide_eq_false c75
                                                clear c75
                                                replace H := Option.bind_eq_some_iff.mp H
                                                obtain ⟨t341, A910, H⟩ := H
                                                replace H : (some t341) = some r := H
                                                have A91 := Aside0.mk A910
                                                clear A910
                                                obtain rfl := Option.some.inj H
                                                go_wp2_with (first | ((with_reducible refine gate_callee (f := 8) rfl ?_); refine goesL_ (some 165) rfl rfl Try.func8 (by kernel_rfl) rfl #[] rfl (by (try simp only [List.map_toArray, List.map_cons, List.map_nil]); first | done | rfl | (simp only [List.length_drop, List.length_take]; rfl)) ?_; (with_reducible refine (potsherdlaw7_awake.calls k6  t341 _ A91.out).mono ?_); rintro e w92 ⟨rfl, hb⟩; refine ⟨_, rfl, ?_⟩; have n0_ := Aside0.mk (Kd.R_below (by (with_reducible repeat (first | apply Kd.R_alloc | apply Kd.R_drewN | apply Kd.R_drew)); exact HO_8.out) hb); have n1_ := Aside0.mk (Kd.R_below (by (with_reducible repeat (first | apply Kd.R_alloc | apply Kd.R_drewN | apply Kd.R_drew)); exact HO_12.out) hb); have n2_ := Aside0.mk (below_step (by repeat (first | (with_reducible first | exact HB.out | apply below_alloc | apply pw_below_drewN | apply below_drew1) | exact HB.out)) hb); clear HO_8; clear HO_12; clear HB; have HO_8 := n0_; have HO_12 := n1_; have HB := n2_; clear n0_ n1_ n2_; (try clear hb); (try clear hb2); (try clear hk); (try clear hi)))
                                                go_ret
                                                exact ⟨by first | rfl | (simp [errW_none, errW_some] <;> rfl) | (simp only [← hji53]; first | rfl | (simp [errW_none, errW_some] <;> rfl)) | (simp [*, errW_none, errW_some] <;> rfl), by repeat (first | (with_reducible first | exact HB.out | apply below_alloc | apply pw_below_drewN | apply below_drew1) | exact HB.out)⟩
                                  · rw [if_neg c55] at H
                                    exact absurd H (by simp)
                                · rw [if_neg c54] at H
                                  exact absurd H (by simp)
          · rw [if_neg c9] at H
            exact absurd H (by simp)
        · rw [if_neg c8] at H
          exact absurd H (by simp)

/-- THE ONE PURE STATEMENT of potsherdlaw7_WearBuckets: yours. -/
def potsherdlaw7_WearBuckets.Pure : Prop := ∀ (l0 : List Int) (a1 : Int), l0.length ≤ maxLen → l0.length * 8 ≤ 140737488351232 → (∀ x ∈ l0, (Lit.int .i64 x).wf = true) → (Lit.int .i64 a1).wf = true → ∃ k, potsherdlaw7_WearBuckets.f k l0 a1 = some true
theorem potsherdlaw7_WearBuckets.walk (P : potsherdlaw7_WearBuckets.Pure) (a0 : Option Addr) (len0 cap0 : Nat) (z0 : List Int) (a1 : Int) (w : World) (w0 : (a0 = none ∧ len0 = 0 ∧ cap0 = 0 ∧ z0 = []) ∨ ∃ x, a0 = some x ∧ len0 ≤ cap0 ∧ cap0 ≤ maxLen ∧ z0.length = cap0 ∧ (∀ i, i < z0.length → w.cell? (x.add i) = some (.int .i64 (z0.getD i 0))) ∧ ∀ n ∈ z0, (Lit.int .i64 n).wf = true) (y0 : len0 * 8 ≤ 140737488351232) (w1 : (Lit.int .i64 a1).wf = true) :
    Calls Try.prog 7 #[.slice a0 len0 cap0, .int .i64 a1] w fun e w' => e = .returned (.bool true) ∧ Below w.heap.size w w' := by
  obtain ⟨l0, rfl, hr0, hm0, hw0, hc0⟩ := ReadsInt.ofRowC w0
  obtain ⟨k, h⟩ := P l0 a1 hm0 y0 hw0 w1
  refine (potsherdlaw7_WearBuckets.calls k _ _ l0 a1 true w (Kd.C_of_reads (d := (0 : Int)) (h1 := fun _ => rfl) hr0) hc0 h).mono ?_
  rintro e w' ⟨rfl, hd⟩
  exact ⟨rfl, hd⟩

end Go.Proofs.Ytdjcmefnnhfhpaa.PAll
