/-  LeastOrder returns true whatever the pairs: in whatever order they are added, the counts are the same.  -/
import Derived.Test.YthnicdafglohbaaBt
import Derived.Test.YthnicdafglohbaaWTab
import Derived.Test.YthnicdafglohbaaWKept
set_option linter.unusedVariables false
set_option linter.unusedSimpArgs false
namespace Go.Proofs.Ythnicdafglohbaa.Lw
open Go.RowKit Go.Maps Go.Sort Go.Lib Go.WideMaps Go.Proofs.YthnicdafglohbaaW.PrintWords Go.Proofs.YthnicdafglohbaaW.PrintLast Go.Proofs.YthnicdafglohbaaW.PrintMore
attribute [local go_sem] max2_int min2_int max_two min_two max_three min_three max_four min_four

theorem addO {c v : Int} (h0 : 0 ≤ c + v) (h1 : c + v ≤ 1099511627776) (h2 : v ≤ 1099511627776) : Li.addZ c v = c + v := by
  unfold Li.addZ Li.mn
  rw [if_neg (show ¬ (1099511627776 : Int) < v by omega), if_neg (show ¬ c + v < 0 by omega), if_neg (by omega)]
def vO (p : S33) : Int := wrap64 (Int.tmod (IntKind.u64.wrap p.f1) 1000)
theorem vO_rng (p : S33) : 0 ≤ vO p ∧ vO p < 1000 := by
  obtain ⟨n, h, h2⟩ := smallW p.f1 1000 (by decide) (by decide)
  unfold vO
  rw [h]
  omega
def sumO (l : List S33) (j : Int) : Int := (l.map (fun p => if p.f0 = j then vO p else 0)).sum
theorem sumO_app (a b : List S33) (j : Int) : sumO (a ++ b) j = sumO a j + sumO b j := by
  unfold sumO
  rw [List.map_append, List.sum_append]
theorem sumO_turn (l : List S33) (k : Nat) (j : Int) : sumO (l.drop k ++ l.take k) j = sumO l j := by
  have h : sumO (l.take k ++ l.drop k) j = sumO l j := by rw [List.take_append_drop]
  rw [← h, sumO_app, sumO_app, Int.add_comm]
theorem sumO_rng : ∀ (l : List S33) (j : Int), 0 ≤ sumO l j ∧ sumO l j ≤ 999 * l.length
  | [], j => by unfold sumO; simp
  | p :: l, j => by
    have ih := sumO_rng l j
    have hv := vO_rng p
    have e : sumO (p :: l) j = (if p.f0 = j then vO p else 0) + sumO l j := by unfold sumO; rw [List.map_cons, List.sum_cons]
    rw [e, List.length_cons]
    split <;> omega
theorem sumO_succ (l : List S33) (i : Nat) (hi : i < l.length) (hl : l.length ≤ 1000) : Li.updZ (sumO (l.take i)) l[i].f0 (Li.addZ (sumO (l.take i) l[i].f0) (vO l[i])) = sumO (l.take (i + 1)) := by
  have h1 := sumO_rng (l.take i) l[i].f0
  have h2 := vO_rng l[i]
  have h3 : (l.take i).length ≤ 1000 := by rw [List.length_take]; omega
  rw [addO (by omega) (by omega) (by omega)]
  funext j
  rw [List.take_succ_eq_append_getElem hi, sumO_app]
  have e : sumO [l[i]] j = if l[i].f0 = j then vO l[i] else 0 := by unfold sumO; simp
  rw [e]
  unfold Li.updZ
  by_cases e2 : j = l[i].f0
  · rw [if_pos e2, e2, if_pos rfl]
  · rw [if_neg e2, if_neg (fun e3 => e2 e3.symm), Int.add_zero]
theorem emptyRow {base : Nat} (w : World) (h : base ≤ w.heap.size) : k33.R 33 (w.alloc (.cells #[] 33)) base (fun _ => True) (.slice (some ⟨w.heap.size, 0, none⟩) 0 0) [] :=
  ⟨fun _ _ => trivial, [], ⟨rfl, .inr ⟨w.heap.size, 0, #[], rfl, h, blk_new w _, Nat.le_refl _, Nat.zero_le _, rfl, rfl⟩⟩, Reps.none _ _⟩
theorem dropC {w : World} {A A1 : Option Addr} {l : List S33} {k cp : Nat} (h : Kd.C k33 w A l.length l) (hk : k ≤ l.length) (hc : l.length ≤ cp) (hA : (if cp = k then A else A.map (·.add (k * 2))) = A1) : Kd.C k33 w A1 (l.length - k) (l.drop k) := by
  have h1 := Kd.C_drop h hk hc
  rw [List.length_drop] at h1
  rw [← hA]
  exact h1
theorem takeC {w : World} {A : Option Addr} {l : List S33} {k : Nat} (h : Kd.C k33 w A l.length l) (hk : k ≤ l.length) : Kd.C k33 w A k (l.take k) := by
  have h1 := Kd.C_take (m := k) h hk
  rwa [List.length_take, Nat.min_eq_left hk] at h1
theorem own_ge {v v1 : Value} {m s : Nat} (hat : v1.ownBlock = v.ownBlock ∨ ∃ b, v1.ownBlock = some b ∧ s ≤ b) (h1 : ∀ q, v.ownBlock = some q → m ≤ q) (h2 : m ≤ s) : ∀ q, v1.ownBlock = some q → m ≤ q := fun q hq => by
  rcases hat with h | ⟨b, h, hb⟩
  · exact h1 q (h ▸ hq)
  · rw [h] at hq
    injection hq with hq
    omega
theorem rowGrown {w w1 : World} {base tb bb n : Nat} {c : Int → Int} {v : Value} {xs : List S33} (h : k33.R 33 w base (fun _ => True) v xs) (hT : Li.Tl w tb bb c n) (hg : w.grownBy w1 (some bb)) : k33.R 33 w1 base (fun _ => True) v xs := by
  refine Kd.R_mono (Kd.R_grown (Kd.R_bound h) hg (fun q hq e => ?_)) (fun _ _ => trivial)
  obtain ⟨-, -, -, t, -, cells, hc⟩ := hq
  injection e with e
  subst e
  obtain ⟨D, ⟨es, clock, hb, -⟩, -⟩ := hT.map
  rw [hb] at hc
  cases hc
def reg_or10.T : Bool × List (List Nat × List Nat) := (true, [([], []), ([], []), ([], []), ([1, 2], [1, 2]), ([0, 3], [0, 3]), ([], []), ([], []), ([5, 6], [5, 6]), ([4, 7, 4], [4, 7]), ([8], [8]), ([], [])])
def reg_or10.B : List Nat := [0, 0, 0, 6, 15, 0, 0, 96, 255, 511, 0]
theorem reg_or10.tab : rtab .any (opsOf Try.f4 10) = reg_or10.T := by kernel_rfl
theorem reg_or10.bits : waitsOk reg_or10.T.2 reg_or10.B = true := by kernel_rfl
def reg_or18.T : Bool × List (List Nat × List Nat) := (true, [([], []), ([], []), ([1], [1]), ([0, 2], [0, 2]), ([], []), ([], []), ([5], [5]), ([4, 6, 3], [4, 6]), ([3, 7], [3, 7])])
def reg_or18.B : List Nat := [0, 0, 2, 7, 0, 0, 32, 127, 255]
theorem reg_or18.tab : rtab .any (opsOf Try.f4 18) = reg_or18.T := by kernel_rfl
theorem reg_or18.bits : waitsOk reg_or18.T.2 reg_or18.B = true := by kernel_rfl
set_option maxHeartbeats 8000000 in
set_option maxRecDepth 100000 in
theorem order (W : World) (A : Option Addr) (cp : Nat) (l : List S33) (hc : l.length ≤ cp) (hC : Kd.C k33 W A l.length l) (hok : ∀ x ∈ l, (Lit.int .i64 x.f0).wf = true) (a1 : Int) :
    Calls Try.prog 4 #[.slice A l.length cp, .int .i64 a1] W fun e W' => e = .returned (.bool true) ∧ Below W.heap.size W W' := by
  have HC := Aside0.mk hC
  have HCC := Aside0.mk hc
  have HOK := Aside0.mk hok
  clear hC hok hc
  by_cases h100 : 100 < l.length
  · have d1 : decide ((l.length : Int) > 100) = true := decide_eq_true (by omega)
    have d1n : decide (100 < l.length) = true := decide_eq_true h100
    clear h100
    go_enter Try.func4, Try.ntmps4
    go_wp2_with fail
    refine (awake W).mono ?_
    rintro ev w6 ⟨rfl, hb6⟩
    have HB6 := Aside0.mk hb6
    clear hb6
    go_wp2_with fail
    go_ret
    exact ⟨rfl, HB6.out⟩
  have d1 : decide ((l.length : Int) > 100) = false := decide_eq_false (by omega)
  have d1n : decide (100 < l.length) = false := decide_eq_false h100
  have HL := Aside0.mk (show l.length ≤ 100 by omega)
  obtain ⟨ln, hln⟩ : ∃ x, l.length + 1 = x := ⟨_, rfl⟩
  have hw3 : wrap64 ((l.length : Int) + 1) = (ln : Int) := by rw [← hln, show (l.length : Int) + 1 = ((l.length + 1 : Nat) : Int) by omega]; exact Li.wrapS _ (by omega) (by omega)
  have hw4 : IntKind.u64.wrap (ln : Int) = (ln : Int) := by rw [IntKind.wrap_u64]; exact Int.emod_eq_of_lt (by omega) (by omega)
  have hw5 : ¬ ((ln : Int) = 0) := by omega
  obtain ⟨k, hk, hkl⟩ := smallW a1 (ln : Int) (by omega) (by omega)
  have HKL := Aside0.mk (show k ≤ l.length by omega)
  clear h100 hln hkl
  go_enter Try.func4, Try.ntmps4
  go_wp2_with fail
  rw [hk]
  clear hk hw3 hw4 hw5 d1 d1n
  refine (Li.new W).mono ?_
  rintro ev w1 ⟨rfl, hT, hb⟩
  have HB1 := Aside0.mk hb
  have HT1 := Aside0.mk hT
  obtain ⟨ta, hta⟩ : ∃ x, W.heap.size + 1 = x := ⟨_, rfl⟩
  obtain ⟨ba, hba⟩ : ∃ x, W.heap.size = x := ⟨_, rfl⟩
  rw [hta, hba] at HT1
  rw [hta]
  have HBA := Aside0.mk (show W.heap.size ≤ ba by omega)
  clear hT hb hta hba
  go_wp2_with fail
  refine (Li.new w1).mono ?_
  rintro ev w2 ⟨rfl, hT, hb⟩
  have HB2 := Aside0.mk (below_step HB1.out hb)
  have HTa2 := Aside0.mk (HT1.out.below hb)
  have HTb2 := Aside0.mk hT
  have hs1 := HT1.out.lt
  obtain ⟨tb, htb⟩ : ∃ x, w1.heap.size + 1 = x := ⟨_, rfl⟩
  obtain ⟨bb, hbb⟩ : ∃ x, w1.heap.size = x := ⟨_, rfl⟩
  rw [htb, hbb] at HTb2
  rw [htb]
  have HBB := Aside0.mk (show W.heap.size ≤ bb by rw [← hbb]; exact HB1.out.size)
  have HAP := Aside0.mk (show ta ≠ bb ∧ ba ≠ bb ∧ tb ≠ ba ∧ bb ≠ ba by omega)
  clear hT hb htb hbb hs1 HT1 HB1
  go_wp2_with fail
  go_loopw [30] (fun v30 wr => ∃ (i : Nat), i ≤ l.length ∧ v30 = .int .i64 (i : Int) ∧ Aside0 (Li.Tl wr ta ba (sumO (l.take i)) i) ∧ Aside0 (Li.Tl wr tb bb (fun _ => 0) 0) ∧ Aside0 (Below W.heap.size W wr)) (fun v30 _ => l.length - (intOf v30).toNat)
  case atStart => exact ⟨0, Nat.zero_le _, rfl, HTa2, HTb2, HB2⟩
  case round =>
    clear HTa2 HTb2 HB2
    obtain ⟨i, hi, rfl, HTa, HTb, HB⟩ := hrel
    by_cases hlt : i < l.length
    · have hlt2 : (i : Int) < (l.length : Int) := by omega
      have HLT := Aside0.mk hlt
      have hw2 : wrap64 ((i : Int) + 1) = ((i + 1 : Nat) : Int) := by rw [show (i : Int) + 1 = ((i + 1 : Nat) : Int) by omega]; exact Li.wrapS _ (by omega) (by have := HL.out; omega)
      have HCr := Aside0.mk (Kd.C_below HC.out HB.out)
      obtain ⟨ad, rfl, x0, x1⟩ := pairAt HCr.out i hlt
      have hwf := HOK.out (l.getD i z33) (by rw [getD_at l z33 i hlt]; exact List.getElem_mem hlt)
      have hsu := sumO_succ l i hlt (by have := HL.out; omega)
      rw [← getD_at l z33 i hlt] at hsu
      obtain ⟨d, hd⟩ : ∃ d, l.getD i z33 = d := ⟨_, rfl⟩
      rw [hd] at x0 x1 hwf hsu
      have HSU := Aside0.mk hsu
      obtain ⟨v, hv⟩ : ∃ v, vO d = v := ⟨_, rfl⟩
      have hvr := vO_rng d
      rw [hv] at HSU hvr
      have hv2 : wrap64 ((IntKind.u64.wrap d.f1).tmod 1000) = v := hv
      have HWF := Aside0.mk hwf
      have HV := Aside0.mk (Li.rng_wf (x := v) (by omega) (by omega))
      clear hd hwf hlt hi HCr hsu hv hvr
      obtain ⟨w4, hw4⟩ : ∃ w4, wr.alloc (.cells #[.int .i64 d.f0, .int .i64 d.f1] 33) = w4 := ⟨_, rfl⟩
      have hb4 : Below wr.heap.size wr w4 := by rw [← hw4]; exact below_alloc (Below.refl _ _) _
      have HTa4 := Aside0.mk (HTa.out.below hb4)
      have HTb4 := Aside0.mk (HTb.out.below hb4)
      have HB4 := Aside0.mk (below_step HB.out hb4)
      have HW4 := Aside0.mk hw4
      clear hb4 hw4 HTa HTb HB
      go_wp2_with fail
      rw [HW4.out]
      refine (Li.add HTa4.out (by have := HLT.out; have := HL.out; omega) d.f0 HWF.out v HV.out).mono ?_
      rintro ev w5 ⟨rfl, hT, hg⟩
      rw [HSU.out] at hT
      have HTa5 := Aside0.mk hT
      have HTb5 := Aside0.mk (HTb4.out.grown hg HAP.out.2.2.1 HAP.out.2.2.2)
      have HB5 := Aside0.mk (HB4.out.grown hg HB4.out.size (fun j hj => by cases hj; exact HBA.out))
      clear hT hg HTa4 HTb4 HB4 x0 x1 hv2
      go_wp2_with fail
      go_roundw
      case measure =>
        have hm : l.length - ((i + 1 : Nat) : Int).toNat < l.length - ((i : Nat) : Int).toNat := by
          rw [Int.toNat_natCast, Int.toNat_natCast]
          exact Nat.sub_lt_sub_left HLT.out (Nat.lt_succ_self i)
        first | exact hm | (rw [hw2]; exact hm)
      case rel => exact ⟨i + 1, HLT.out, by first | rw [hw2] | rfl, HTa5, HTb5, HB5⟩
    · have he : i = l.length := by omega
      subst he
      have hnn : ¬ (((l.length : Nat) : Int) < (l.length : Int)) := by omega
      clear hlt hi
      rw [List.take_length] at HTa
      obtain ⟨w4, hw4⟩ : ∃ w4, wr = w4 := ⟨_, rfl⟩
      rw [hw4] at HTa HTb HB ⊢
      clear hw4
      have HAL := Aside0.mk (And.intro HTa.out.lt HTb.out.lt)
      obtain ⟨i0, hi0, hz⟩ := Option.map_eq_some_iff.1 (show (Try.prog.info? 33).map (fun i => (i.zero, i.size, i.bytes)) = some (some (.agg #[.int .i64 0, .int .i64 0]), 2, 16) by kernel_rfl)
      simp only [Prod.mk.injEq] at hz
      obtain ⟨A1, hA1⟩ : ∃ A1, (if cp = k then A else A.map (·.add (k * 2))) = A1 := ⟨_, rfl⟩
      have hsf := cut_from 28 33 .i64 Try.underlying28 hi0 2 hz.2.1 A l.length cp (k : Int) (by omega) (by have := HKL.out; omega)
      have hst := cut_to 28 33 .i64 Try.underlying28 hi0 A l.length cp (k : Int) (by omega) (by have := HKL.out; omega) HCC.out
      rw [Int.toNat_natCast] at hst
      simp only [Int.toNat_natCast] at hsf
      rw [hA1] at hsf
      have HA1 := Aside0.mk hA1
      have HTaw := HTa
      have HTbw := HTb
      have HBw := HB
      clear hi0 hz hA1 HTa HTb HB
      go_upto_region 10 with fail
      have HB := Aside0.mk (below_step HBw.out (below_drew (Below.refl _ _)))
      have HTa := Aside0.mk (HTaw.out.below (below_drew (Below.refl _ _)))
      have HTb := Aside0.mk (HTbw.out.below (below_drew (Below.refl _ _)))
      have HCW := Aside0.mk (Kd.C_below HC.out HB.out)
      clear HTaw HTbw HBw
      refine start_ (n := 11) (S := fun w' => True) (ds := []) #[false, false, false, false, false, false, false, false, false, false, false] (by kernel_rfl) rfl rfl trivial (fun hHeld => ?_)
      refine with_tabW reg_or10.tab reg_or10.bits (fun HT_ HW_ => ?_)
      obtain ⟨z0, hz0⟩ : ∃ z, w4.drew = z := ⟨_, rfl⟩
      rw [hz0] at HB HTa HTb HCW ⊢
      have HZS := Aside0.mk (show w4.heap.size = z0.heap.size by rw [← hz0]; rfl)
      clear hz0
      refine pure_ (i := 1) (N := (some 45)) (v := ?_) (a' := ?_) #[false, true, false, false, false, false, false, false, false, false, false] rfl rfl (any_of HT_.out (by kernel_rfl)) (fun _ _ _ h => h) (Or.inl ⟨by rfl, ?_⟩) ?_ ?_
      rotate_left
      · intro w'
        go_simp
        first | done | with_reducible rfl
      rotate_left
      · simp only [Act.put, List.setIfInBounds_toArray, List.set_cons_zero, List.set_cons_succ, i64_w, i32_w]
        rfl
      refine pure_ (i := 2) (N := (some 46)) (v := ?_) (a' := ?_) #[false, true, true, false, false, false, false, false, false, false, false] rfl rfl (any_of HT_.out (by kernel_rfl)) (fun _ _ _ h => h) (Or.inl ⟨by rfl, ?_⟩) ?_ ?_
      rotate_left
      · intro w'
        go_simp
        first | done | with_reducible rfl
      rotate_left
      · simp only [Act.put, List.setIfInBounds_toArray, List.set_cons_zero, List.set_cons_succ, i64_w, i32_w]
        rfl
      refine pure_ (i := 3) (N := (some 47)) (v := ?_) (a' := ?_) #[false, true, true, true, false, false, false, false, false, false, false] rfl rfl (any_of HT_.out (by kernel_rfl)) (fun _ _ _ h => h) (Or.inl ⟨by rfl, ?_⟩) ?_ ?_
      rotate_left
      · intro w'
        go_simp
        first | done | with_reducible rfl
      rotate_left
      · simp only [Act.put, List.setIfInBounds_toArray, List.set_cons_zero, List.set_cons_succ, i64_w, i32_w]
        rfl
      refine pure_ (i := 5) (N := (some 49)) (v := ?_) (a' := ?_) #[false, true, true, true, false, true, false, false, false, false, false] rfl rfl (any_of HT_.out (by kernel_rfl)) (fun _ _ _ h => h) (Or.inl ⟨by rfl, ?_⟩) ?_ ?_
      rotate_left
      · intro w'
        go_simp
        first | done | with_reducible rfl
      rotate_left
      · simp only [Act.put, List.setIfInBounds_toArray, List.set_cons_zero, List.set_cons_succ, i64_w, i32_w]
        rfl
      refine pure_ (i := 6) (N := (some 50)) (v := ?_) (a' := ?_) #[false, true, true, true, false, true, true, false, false, false, false] rfl rfl (any_of HT_.out (by kernel_rfl)) (fun _ _ _ h => h) (Or.inl ⟨by rfl, ?_⟩) ?_ ?_
      rotate_left
      · intro w'
        go_simp
        first | done | with_reducible rfl
      rotate_left
      · simp only [Act.put, List.setIfInBounds_toArray, List.set_cons_zero, List.set_cons_succ, i64_w, i32_w]
        rfl
      refine pure_ (i := 7) (N := (some 51)) (v := ?_) (a' := ?_) #[false, true, true, true, false, true, true, true, false, false, false] rfl rfl (any_of HT_.out (by kernel_rfl)) (fun _ _ _ h => h) (Or.inl ⟨by rfl, ?_⟩) ?_ ?_
      rotate_left
      · intro w'
        go_simp
        first | done | with_reducible rfl
      rotate_left
      · simp only [Act.put, List.setIfInBounds_toArray, List.set_cons_zero, List.set_cons_succ, i64_w, i32_w]
        rfl
      refine pure_ (i := 10) (N := (some 54)) (v := ?_) (a' := ?_) #[false, true, true, true, false, true, true, true, false, false, true] rfl rfl (any_of HT_.out (by kernel_rfl)) (fun _ _ _ h => h) (Or.inl ⟨by rfl, ?_⟩) ?_ ?_
      rotate_left
      · intro w'
        go_simp
        first | done | with_reducible rfl
      rotate_left
      · simp only [Act.put, List.setIfInBounds_toArray, List.set_cons_zero, List.set_cons_succ, i64_w, i32_w]
        rfl
      refine one_ (i := 0) (N := (some 44)) #[true, true, true, true, false, true, true, true, false, false, true] rfl rfl (one_of HT_.out (by kernel_rfl)) (by decide) (fun K hK => ?_)
      go_simp
      obtain ⟨y0, hY_⟩ : ∃ Y, z0.alloc (.cells #[] 33) = Y := ⟨_, rfl⟩
      obtain ⟨be, hbe⟩ : ∃ x, z0.heap.size = x := ⟨_, rfl⟩
      have hbl_ : Below z0.heap.size z0 y0 := by rw [← hY_]; exact below_alloc (Below.refl _ _) _
      have HE0 : Aside0 (k33.R 33 y0 W.heap.size (fun _ => True) (.slice (some ⟨be, 0, none⟩) 0 0) []) := ⟨by rw [← hY_, ← hbe]; exact emptyRow _ HB.out.size⟩
      have HB0 := Aside0.mk (below_step HB.out hbl_)
      have HTa0 := Aside0.mk (HTa.out.below hbl_)
      have HTb0 := Aside0.mk (HTb.out.below hbl_)
      have HC0 := Aside0.mk (Kd.C_below HCW.out hbl_)
      have HLE0 := Aside0.mk (show w4.heap.size ≤ be by rw [← hbe]; exact Nat.le_of_eq HZS.out)
      have HYS := Aside0.mk (show w4.heap.size ≤ y0.heap.size from Nat.le_trans (Nat.le_of_eq HZS.out) hbl_.size)
      rw [hY_, hbe]
      clear hY_ hbl_ hbe HB HTa HTb HCW
      refine hK.out _ _ trivial (fun hHeld => ?_)
      clear hK K
      refine one_ (i := 4) (N := (some 48)) #[true, true, true, true, true, true, true, true, false, false, true] rfl rfl (one_of HT_.out (by kernel_rfl)) (by decide) (fun K hK => ?_)
      refine Kd.R_append_rows_step k33 (w0 := W) W.heap.size (by rfl) (.tmp 44) (.tmp 47) 28 33 (.agg #[.int .i64 0, .int .i64 0]) 16 rfl Try.underlying28 (by kernel_rfl) rfl (by decide) (by omega) (.slice (some ⟨be, 0, none⟩) 0 0) [] (l.drop k) A1 (l.length - k) (cp - k) (fun _ => True) (fun _ => False) rfl rfl ?aO ?aR (fun _ _ h => h) (fun _ h => h.elim) ?aF ?aB ?aS ?aL ?_
      case aO => exact HE0.out
      case aR => exact (dropC HC0.out HKL.out HCC.out HA1.out)
      case aF => exact fun _ _ => trivial
      case aB => exact HB0.out
      case aS => exact HB0.out.size
      case aL => have h1 := HL.out; have h2 := HKL.out; simp; omega
      intro v1 y1 ho_ hb_ hg_ hat_
      have HE1 : Aside0 (k33.R 33 y1 W.heap.size (fun _ => True) v1 (l.drop k)) := ⟨by simpa using ho_⟩
      have HB1 := Aside0.mk hb_
      have hne_ := HLE0.out
      have HTa1 := Aside0.mk (HTa0.out.keep (hg_.block _ HTa0.out.lt.1 (by have := HAL.out; simp [Value.ownBlock]; omega)) (hg_.block _ HTa0.out.lt.2 (by have := HAL.out; simp [Value.ownBlock]; omega)))
      have HTb1 := Aside0.mk (HTb0.out.keep (hg_.block _ HTb0.out.lt.1 (by have := HAL.out; simp [Value.ownBlock]; omega)) (hg_.block _ HTb0.out.lt.2 (by have := HAL.out; simp [Value.ownBlock]; omega)))
      have HC1 := Aside0.mk (Kd.C_below HC.out hb_)
      have HV1 := Aside0.mk (own_ge hat_ (show ∀ q, (Value.slice (some ⟨be, 0, none⟩) 0 0).ownBlock = some q → w4.heap.size ≤ q from fun q hq => by simp [Value.ownBlock] at hq; omega) HYS.out)
      clear ho_ hb_ hg_ hat_ hne_ HE0 HB0 HTa0 HTb0 HC0
      refine hK.out _ _ trivial (fun hHeld => ?_)
      clear hK K
      refine norm_ (a' := ?_) ?_ ?_
      rotate_left
      · show Act.put _ (some 48) _ = _
        simp only [Act.put, List.setIfInBounds_toArray, List.set_cons_zero, List.set_cons_succ, i64_w, i32_w]
        rfl
      refine one_ (i := 8) (N := (some 52)) #[true, true, true, true, true, true, true, true, true, false, true] rfl rfl (one_of HT_.out (by kernel_rfl)) (by decide) (fun K hK => ?_)
      refine Kd.R_append_rows_step k33 (w0 := W) W.heap.size (by rfl) (.tmp 48) (.tmp 51) 28 33 (.agg #[.int .i64 0, .int .i64 0]) 16 rfl Try.underlying28 (by kernel_rfl) rfl (by decide) (by omega) v1 (l.drop k) (l.take k) A k cp (fun _ => True) (fun _ => False) rfl rfl ?aO ?aR (fun _ _ h => h) (fun _ h => h.elim) ?aF ?aB ?aS ?aL ?_
      case aO => exact HE1.out
      case aR => exact (takeC HC1.out HKL.out)
      case aF => exact fun _ _ => trivial
      case aB => exact HB1.out
      case aS => exact HB1.out.size
      case aL => have h1 := HL.out; have h2 := HKL.out; simp; omega
      intro v2 y2 ho_ hb_ hg_ hat_
      have HE2 : Aside0 (k33.R 33 y2 W.heap.size (fun _ => True) v2 (l.drop k ++ l.take k)) := ⟨ho_⟩
      have HB2 := Aside0.mk hb_
      have hne_ := HV1.out
      have HTa2 := Aside0.mk (HTa1.out.keep (hg_.block _ HTa1.out.lt.1 (fun e => by have := HAL.out; have := hne_ _ e.symm; omega)) (hg_.block _ HTa1.out.lt.2 (fun e => by have := HAL.out; have := hne_ _ e.symm; omega)))
      have HTb2 := Aside0.mk (HTb1.out.keep (hg_.block _ HTb1.out.lt.1 (fun e => by have := HAL.out; have := hne_ _ e.symm; omega)) (hg_.block _ HTb1.out.lt.2 (fun e => by have := HAL.out; have := hne_ _ e.symm; omega)))
      clear ho_ hb_ hg_ hat_ hne_ HE1 HB1 HTa1 HTb1 HC1 HV1
      obtain ⟨A2, cp2, e2_, -, hC2_⟩ := Kd.R_reads HE2.out
      subst e2_
      have HC2 := Aside0.mk hC2_
      have hlen2 : (l.drop k ++ l.take k).length = l.length := by simp; have := HKL.out; omega
      rw [hlen2] at HC2 HE2 ⊢
      clear hC2_ hlen2 HC2
      refine hK.out _ _ trivial (fun hHeld => ?_)
      clear hK K
      refine norm_ (a' := ?_) ?_ ?_
      rotate_left
      · show Act.put _ (some 52) _ = _
        simp only [Act.put, List.setIfInBounds_toArray, List.set_cons_zero, List.set_cons_succ, i64_w, i32_w]
        rfl
      refine pure_ (i := 9) (N := (some 53)) (v := ?_) (a' := ?_) #[true, true, true, true, true, true, true, true, true, true, true] rfl rfl (any_of HT_.out (by kernel_rfl)) (fun _ _ _ h => h) (Or.inl ⟨by rfl, ?_⟩) ?_ ?_
      rotate_left
      · intro w'
        go_simp
        first | done | with_reducible rfl
      rotate_left
      · simp only [Act.put, List.setIfInBounds_toArray, List.set_cons_zero, List.set_cons_succ, i64_w, i32_w]
        rfl
      refine done_ (done_of HT_.out (by kernel_rfl)) ?_
      clear hHeld HT_ HW_ hsf hst HA1 HLE0 HYS HZS HAL
      obtain ⟨ys, hys⟩ : ∃ ys, l.drop k ++ l.take k = ys := ⟨_, rfl⟩
      have HYL := Aside0.mk (show ys.length = l.length by rw [← hys]; simp; have := HKL.out; omega)
      have HYSUM := Aside0.mk (show sumO ys = sumO l by funext j; rw [← hys]; exact sumO_turn l k j)
      have HYWF := Aside0.mk (show ∀ x ∈ ys, (Lit.int .i64 x.f0).wf = true from fun x hx => by
        rw [← hys, List.mem_append] at hx
        rcases hx with hx | hx
        · exact HOK.out x (List.mem_of_mem_drop hx)
        · exact HOK.out x (List.mem_of_mem_take hx))
      rw [hys] at HE2
      clear hys
      go_wp2_with fail
      go_loopw [54] (fun v54 wr => ∃ (i : Nat), i ≤ l.length ∧ v54 = .int .i64 (i : Int) ∧ Aside0 (Li.Tl wr ta ba (sumO l) l.length) ∧ Aside0 (Li.Tl wr tb bb (sumO (ys.take i)) i) ∧ Aside0 (k33.R 33 wr W.heap.size (fun _ => True) (.slice A2 l.length cp2) ys) ∧ Aside0 (Below W.heap.size W wr)) (fun v54 _ => l.length - (intOf v54).toNat)
      case atStart => exact ⟨0, Nat.zero_le _, rfl, HTa2, HTb2, HE2, HB2⟩
      case round =>
        clear HTa2 HTb2 HE2 HB2 hnn
        obtain ⟨i, hi, rfl, HTa, HTb, HE, HB⟩ := hrel
        by_cases hlt : i < l.length
        · have hlt2 : (i : Int) < (l.length : Int) := by omega
          have HLT := Aside0.mk hlt
          have hw2 : wrap64 ((i : Int) + 1) = ((i + 1 : Nat) : Int) := by rw [show (i : Int) + 1 = ((i + 1 : Nat) : Int) by omega]; exact Li.wrapS _ (by omega) (by have := HL.out; omega)
          obtain ⟨-, -, hCy⟩ := Kd.R_reads' HE.out
          have hly : i < ys.length := by rw [HYL.out]; exact hlt
          obtain ⟨ad, rfl, x0, x1⟩ := pairAt hCy i hly
          have hwf := HYWF.out (ys.getD i z33) (by rw [getD_at ys z33 i hly]; exact List.getElem_mem hly)
          have hsu := sumO_succ ys i hly (by rw [HYL.out]; have := HL.out; omega)
          rw [← getD_at ys z33 i hly] at hsu
          obtain ⟨d, hd⟩ : ∃ d, ys.getD i z33 = d := ⟨_, rfl⟩
          rw [hd] at x0 x1 hwf hsu
          have HSU := Aside0.mk hsu
          obtain ⟨v, hv⟩ : ∃ v, vO d = v := ⟨_, rfl⟩
          have hvr := vO_rng d
          rw [hv] at HSU hvr
          have hv2 : wrap64 ((IntKind.u64.wrap d.f1).tmod 1000) = v := hv
          have HWF := Aside0.mk hwf
          have HV := Aside0.mk (Li.rng_wf (x := v) (by omega) (by omega))
          clear hd hwf hlt hi hCy hsu hv hvr hly
          obtain ⟨w4', hw4⟩ : ∃ w4, wr.alloc (.cells #[.int .i64 d.f0, .int .i64 d.f1] 33) = w4 := ⟨_, rfl⟩
          have hb4 : Below wr.heap.size wr w4' := by rw [← hw4]; exact below_alloc (Below.refl _ _) _
          have HTa4 := Aside0.mk (HTa.out.below hb4)
          have HTb4 := Aside0.mk (HTb.out.below hb4)
          have HE4 := Aside0.mk (Kd.R_below HE.out hb4)
          have HB4 := Aside0.mk (below_step HB.out hb4)
          have HW4 := Aside0.mk hw4
          clear hb4 hw4 HTa HTb HB HE
          go_wp2_with fail
          rw [HW4.out]
          refine (Li.add HTb4.out (by have := HLT.out; have := HL.out; omega) d.f0 HWF.out v HV.out).mono ?_
          rintro ev w5 ⟨rfl, hT, hg⟩
          rw [HSU.out] at hT
          have HTb5 := Aside0.mk hT
          have HTa5 := Aside0.mk (HTa4.out.grown hg HAP.out.1 HAP.out.2.1)
          have HE5 := Aside0.mk (rowGrown HE4.out HTb4.out hg)
          have HB5 := Aside0.mk (HB4.out.grown hg HB4.out.size (fun j hj => by cases hj; exact HBB.out))
          clear hT hg HTa4 HTb4 HB4 HE4 x0 x1 hv2
          go_wp2_with fail
          go_roundw
          case measure =>
            have hm : l.length - ((i + 1 : Nat) : Int).toNat < l.length - ((i : Nat) : Int).toNat := by
              rw [Int.toNat_natCast, Int.toNat_natCast]
              exact Nat.sub_lt_sub_left HLT.out (Nat.lt_succ_self i)
            first | exact hm | (rw [hw2]; exact hm)
          case rel => exact ⟨i + 1, HLT.out, by first | rw [hw2] | rfl, HTa5, HTb5, HE5, HB5⟩
        · have he : i = l.length := by omega
          subst he
          have hnn : ¬ (((l.length : Nat) : Int) < (l.length : Int)) := by omega
          clear hlt hi HE
          rw [show ys.take l.length = ys by rw [← HYL.out, List.take_length], HYSUM.out] at HTb
          go_wp2_with fail
          go_loopw [70] (fun v70 wr => ∃ (i : Nat), i ≤ l.length ∧ v70 = .int .i64 (i : Int) ∧ Aside0 (Li.Tl wr ta ba (sumO l) l.length) ∧ Aside0 (Li.Tl wr tb bb (sumO l) l.length) ∧ Aside0 (Below W.heap.size W wr)) (fun v70 _ => l.length - (intOf v70).toNat)
          case atStart => exact ⟨0, Nat.zero_le _, rfl, HTa, HTb, HB⟩
          case round =>
            clear HTa HTb HB hnn
            obtain ⟨i, hi, rfl, HTa, HTb, HB⟩ := hrel
            by_cases hlt : i < l.length
            · have hlt2 : (i : Int) < (l.length : Int) := by omega
              have HLT := Aside0.mk hlt
              have hw2 : wrap64 ((i : Int) + 1) = ((i + 1 : Nat) : Int) := by rw [show (i : Int) + 1 = ((i + 1 : Nat) : Int) by omega]; exact Li.wrapS _ (by omega) (by have := HL.out; omega)
              have HCr := Aside0.mk (Kd.C_below HC.out HB.out)
              obtain ⟨ad, rfl, x0, x1⟩ := pairAt HCr.out i hlt
              have hwf := HOK.out (l.getD i z33) (by rw [getD_at l z33 i hlt]; exact List.getElem_mem hlt)
              obtain ⟨d, hd⟩ : ∃ d, l.getD i z33 = d := ⟨_, rfl⟩
              rw [hd] at x0 x1 hwf
              have HWF := Aside0.mk hwf
              clear hd hwf hlt hi HCr
              go_upto_region 18 with fail
              obtain ⟨w4', hw4⟩ : ∃ w4, wr.alloc (.cells #[.int .i64 d.f0, .int .i64 d.f1] 33) = w4 := ⟨_, rfl⟩
              obtain ⟨bx, hbx⟩ : ∃ x, wr.heap.size = x := ⟨_, rfl⟩
              have hb4 : Below wr.heap.size wr w4' := by rw [← hw4]; exact below_alloc (Below.refl _ _) _
              have HX4 : Aside0 (w4'.heap[bx]? = some (.cells #[.int .i64 d.f0, .int .i64 d.f1] 33 (0, 0))) := ⟨by rw [← hw4, ← hbx]; exact blk_new wr _⟩
              have HTa4 := Aside0.mk (HTa.out.below hb4)
              have HTb4 := Aside0.mk (HTb.out.below hb4)
              have HB4 := Aside0.mk (below_step HB.out hb4)
              rw [hw4, hbx]
              clear hb4 hw4 hbx HTa HTb HB x0 x1
              have HX9 := Aside0.mk (blk_below HX4.out (below_drew (Below.refl _ _)))
              have HTa9 := Aside0.mk (HTa4.out.below (below_drew (Below.refl _ _)))
              have HTb9 := Aside0.mk (HTb4.out.below (below_drew (Below.refl _ _)))
              have HB9 := Aside0.mk (below_step HB4.out (below_drew (Below.refl _ _)))
              clear HX4 HTa4 HTb4 HB4
              refine start_ (n := 9) (S := fun w' => w'.cell? ⟨bx, 0, none⟩ = some (.int .i64 d.f0)) (ds := []) #[false, false, false, false, false, false, false, false, false] (by kernel_rfl) rfl rfl ((blk_cell HX9.out 0).trans rfl) (fun hHeld => ?_)
              refine with_tabW reg_or18.tab reg_or18.bits (fun HT_ HW_ => ?_)
              refine pure_ (i := 0) (N := (some 74)) (v := ?_) (a' := ?_) #[true, false, false, false, false, false, false, false, false] rfl rfl (any_of HT_.out (by kernel_rfl)) (fun _ _ _ h => h) (Or.inl ⟨by rfl, ?_⟩) ?_ ?_
              rotate_left
              · intro w'
                go_simp
                first | done | with_reducible rfl
              rotate_left
              · simp only [Act.put, List.setIfInBounds_toArray, List.set_cons_zero, List.set_cons_succ, i64_w, i32_w]
                rfl
              refine pure_ (i := 1) (N := (some 75)) (v := ?_) (a' := ?_) #[true, true, false, false, false, false, false, false, false] rfl rfl (any_of HT_.out (by kernel_rfl)) (fun _ _ _ h => h) (Or.inl ⟨by rfl, ?_⟩) ?_ ?_
              rotate_left
              · intro w'
                go_simp
                first | done | with_reducible rfl
              rotate_left
              · simp only [Act.put, List.setIfInBounds_toArray, List.set_cons_zero, List.set_cons_succ, i64_w, i32_w]
                rfl
              refine take_ (i := 2) (N := (some 76)) (v := ?_) (a' := ?_) #[true, true, true, false, false, false, false, false, false] rfl rfl (take_ofW HT_.out HW_.out (by kernel_rfl)) (fun _ _ _ h => h) (Or.inl ⟨by rfl, ?_⟩) hHeld ?_ ?_
              rotate_left
              · rintro w' s0
                go_simp
                first | done | with_reducible rfl
              rotate_left
              · simp only [Act.put, List.setIfInBounds_toArray, List.set_cons_zero, List.set_cons_succ, i64_w, i32_w]
                rfl
              refine pure_ (i := 4) (N := (some 78)) (v := ?_) (a' := ?_) #[true, true, true, false, true, false, false, false, false] rfl rfl (any_of HT_.out (by kernel_rfl)) (fun _ _ _ h => h) (Or.inl ⟨by rfl, ?_⟩) ?_ ?_
              rotate_left
              · intro w'
                go_simp
                first | done | with_reducible rfl
              rotate_left
              · simp only [Act.put, List.setIfInBounds_toArray, List.set_cons_zero, List.set_cons_succ, i64_w, i32_w]
                rfl
              refine pure_ (i := 5) (N := (some 79)) (v := ?_) (a' := ?_) #[true, true, true, false, true, true, false, false, false] rfl rfl (any_of HT_.out (by kernel_rfl)) (fun _ _ _ h => h) (Or.inl ⟨by rfl, ?_⟩) ?_ ?_
              rotate_left
              · intro w'
                go_simp
                first | done | with_reducible rfl
              rotate_left
              · simp only [Act.put, List.setIfInBounds_toArray, List.set_cons_zero, List.set_cons_succ, i64_w, i32_w]
                rfl
              refine take_ (i := 6) (N := (some 80)) (v := ?_) (a' := ?_) #[true, true, true, false, true, true, true, false, false] rfl rfl (take_ofW HT_.out HW_.out (by kernel_rfl)) (fun _ _ _ h => h) (Or.inl ⟨by rfl, ?_⟩) hHeld ?_ ?_
              rotate_left
              · rintro w' s0
                go_simp
                first | done | with_reducible rfl
              rotate_left
              · simp only [Act.put, List.setIfInBounds_toArray, List.set_cons_zero, List.set_cons_succ, i64_w, i32_w]
                rfl
              refine one_ (i := 3) (N := (some 77)) #[true, true, true, true, true, true, true, false, false] rfl rfl (one_of HT_.out (by kernel_rfl)) (by decide) (fun K hK => ?_)
              refine goes_ Try.func16 (by kernel_rfl) rfl #[.pointer (some ⟨ta, 0, none⟩), .int .i64 d.f0] (by rfl) rfl rfl (by (try simp only [List.map_toArray, List.map_cons, List.map_nil]); first | done | rfl) ?_
              with_reducible refine (Li.of' HTa9.out d.f0 HWF.out).mono ?_
              rintro ev_ u1 ⟨rfl, hw_⟩
              refine ⟨_, rfl, ?_⟩
              rw [hw_]
              clear hw_ u1
              refine hK.out _ _ ((blk_cell HX9.out 0).trans rfl) (fun hHeld => ?_)
              clear hK K
              refine norm_ (a' := ?_) ?_ ?_
              rotate_left
              · show Act.put _ (some 77) _ = _
                simp only [Act.put, List.setIfInBounds_toArray, List.set_cons_zero, List.set_cons_succ, i64_w, i32_w]
                rfl
              refine one_ (i := 7) (N := (some 81)) #[true, true, true, true, true, true, true, true, false] rfl rfl (one_of HT_.out (by kernel_rfl)) (by decide) (fun K hK => ?_)
              refine goes_ Try.func16 (by kernel_rfl) rfl #[.pointer (some ⟨tb, 0, none⟩), .int .i64 d.f0] (by rfl) rfl rfl (by (try simp only [List.map_toArray, List.map_cons, List.map_nil]); first | done | rfl) ?_
              with_reducible refine (Li.of' HTb9.out d.f0 HWF.out).mono ?_
              rintro ev_ u2 ⟨rfl, hw_⟩
              refine ⟨_, rfl, ?_⟩
              rw [hw_]
              clear hw_ u2
              refine hK.out _ _ ((blk_cell HX9.out 0).trans rfl) (fun hHeld => ?_)
              clear hK K
              refine norm_ (a' := ?_) ?_ ?_
              rotate_left
              · show Act.put _ (some 81) _ = _
                simp only [Act.put, List.setIfInBounds_toArray, List.set_cons_zero, List.set_cons_succ, i64_w, i32_w]
                rfl
              refine pure_ (i := 8) (N := (some 82)) (v := ?_) (a' := ?_) #[true, true, true, true, true, true, true, true, true] rfl rfl (any_of HT_.out (by kernel_rfl)) (fun _ _ _ h => h) (Or.inl ⟨by rfl, ?_⟩) ?_ ?_
              rotate_left
              · intro w'
                go_simp
                first | done | with_reducible rfl
              rotate_left
              · simp only [Act.put, List.setIfInBounds_toArray, List.set_cons_zero, List.set_cons_succ, i64_w, i32_w]
                rfl
              refine done_ (done_of HT_.out (by kernel_rfl)) ?_
              clear hHeld HT_ HW_
              go_wp2_with fail
              go_roundw
              case measure =>
                have hm : l.length - ((i + 1 : Nat) : Int).toNat < l.length - ((i : Nat) : Int).toNat := by
                  rw [Int.toNat_natCast, Int.toNat_natCast]
                  exact Nat.sub_lt_sub_left HLT.out (Nat.lt_succ_self i)
                first | exact hm | (rw [hw2]; exact hm)
              case rel => exact ⟨i + 1, HLT.out, by first | rw [hw2] | rfl, HTa9, HTb9, HB9⟩
            · have he : i = l.length := by omega
              subst he
              have hnn : ¬ (((l.length : Nat) : Int) < (l.length : Int)) := by omega
              clear hlt hi
              go_wp2_with fail
              refine (awake wr).mono ?_
              rintro ev w6 ⟨rfl, hb6⟩
              have HB6 := Aside0.mk (below_step HB.out hb6)
              clear hb6
              go_wp2_with fail
              go_ret
              exact ⟨rfl, HB6.out⟩
theorem orderFinal (W : World) (A0 : Option Addr) (c0 : Nat) (l0 : List S33) (hc0 : l0.length ≤ c0) (hr0 : Kd.C k33 W A0 l0.length l0) (hm0 : l0.length ≤ maxLen) (hok0 : ∀ x ∈ l0, (Lit.int .i64 x.f0).wf = true ∧ (Lit.int .i64 x.f1).wf = true) (a1 : Int) (w1 : (Lit.int .i64 a1).wf = true) :
    Calls Try.prog 4 #[.slice A0 l0.length c0, .int .i64 a1] W fun e W' => e = .returned (.bool true) ∧ Below W.heap.size W W' := order W A0 c0 l0 hc0 hr0 (fun x hx => (hok0 x hx).1) a1
end Go.Proofs.Ythnicdafglohbaa.Lw
