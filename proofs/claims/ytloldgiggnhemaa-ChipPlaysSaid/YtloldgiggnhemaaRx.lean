import Derived.Test.YtloldgiggnhemaaRn
import Derived.Test.YtloldgiggnhemaaVz
set_option linter.unusedVariables false
set_option linter.unusedSimpArgs false
/-! New of numbers that may not be; SameBlock, SameBlocks. -/
namespace Go.Proofs.Ytloldgiggnhemaa.Cm
open Go.RowKit Go.Proofs.YtloldgiggnhemaaW.PrintWords Go.Proofs.YtloldgiggnhemaaW.PrintLast Go.Proofs.YtloldgiggnhemaaW.PrintMore Go.Proofs.Ytloldgiggnhemaa.Kp Go.Proofs.Ytloldgiggnhemaa.Cp
attribute [local go_sem] max2_int min2_int max_two min_two max_three min_three max_four min_four

set_option maxHeartbeats 2000000 in
set_option maxRecDepth 100000 in
theorem newNil0 (w : World) (b p : Int) (A : Option Addr) (n c : Nat) (d1 d2 d3 d4 : Bool) (h1 : decide (b < 1) = d1) (h2 : decide (b > 64) = d2) (h3 : decide (p < 1) = d3) (h4 : decide (p > 32) = d4) (h5 : (d1 || d2 || d3 || d4) = true) :
    CallsIn Fence.wide 9 Try.prog 12 #[.int .i64 b, .int .i64 p, .slice A n c] w fun e w' => e = .returned (.pointer none) ∧ Below w.heap.size w w' := by
  have HB := Aside0.mk (below_alloc (below_alloc (Below.refl _ w) (.cells #[.int .i64 p] 3)) (.cells #[.slice A n c] 42))
  refine callsIn_of_wp_marks Try.func12 rfl trivial ?_ rfl
  simp only [Try.ntmps12, List.size_toArray, List.length_cons, List.length_nil, Nat.reduceAdd, Nat.reduceSub, Array.replicate_succ, Array.replicate_zero, List.push_toArray, List.append_toArray, List.nil_append, List.cons_append]
  cases d1
  · cases d2
    · cases d3
      · cases d4
        · exact absurd h5 (by decide)
        · clear h5
          gi_wp2_with fail
          exact ⟨.pointer none, by simp [results, Try.results12, go_sem], rfl, HB.out⟩
      · clear h5 h4
        gi_wp2_with fail
        exact ⟨.pointer none, by simp [results, Try.results12, go_sem], rfl, HB.out⟩
    · clear h5 h4 h3
      gi_wp2_with fail
      exact ⟨.pointer none, by simp [results, Try.results12, go_sem], rfl, HB.out⟩
  · clear h5 h4 h3 h2
    gi_wp2_with fail
    exact ⟨.pointer none, by simp [results, Try.results12, go_sem], rfl, HB.out⟩
theorem newNil (w : World) (b p : Int) (A : Option Addr) (n c : Nat) (hx : ¬ (1 ≤ b ∧ b ≤ 64 ∧ 1 ≤ p ∧ p ≤ 32)) :
    Calls Try.prog 12 #[.int .i64 b, .int .i64 p, .slice A n c] w fun e w' => e = .returned (.pointer none) ∧ Below w.heap.size w w' := by
  refine callsIn_wide.1 (newNil0 w b p A n c _ _ _ _ rfl rfl rfl rfl ?_)
  by_cases h1 : b < 1
  · simp [h1]
  · by_cases h2 : b > 64
    · simp [h2]
    · by_cases h3 : p < 1
      · simp [h3]
      · have h4 : p > 32 := by omega
        simp [h4]
/-- A box that holds a block. -/
theorem boxB {W : World} {b : Nat} {B : Blk} {pv : Value} (h : W.heap[b]? = some (.cells #[.bool B.bad, .int .i64 B.next, .int .i64 B.count, pv] 36 (0, 0))) :
    W.cell? ⟨b, 0, none⟩ = some (.bool B.bad) ∧ W.cell? ⟨b, 1, none⟩ = some (.int .i64 B.next) ∧ W.cell? ⟨b, 2, none⟩ = some (.int .i64 B.count) ∧ W.cell? ⟨b, 3, none⟩ = some pv :=
  ⟨(blk_cell h 0).trans rfl, (blk_cell h 1).trans rfl, (blk_cell h 2).trans rfl, (blk_cell h 3).trans rfl⟩
theorem sameHeld {W w' : World} {b1 b2 i n1 c1 n2 c2 l1 k1 l2 k2 : Nat} {A1 A2 P1 P2 : Option Addr} {B : Blk} {a1 a2 : Addr} {xs : List Int}
    (h1 : W.heap[b1]? = some (.cells #[.bool B.bad, .int .i64 B.next, .int .i64 B.count, .slice A1 n1 c1] 36 (0, 0))) (h2 : W.heap[b2]? = some (.cells #[.bool B.bad, .int .i64 B.next, .int .i64 B.count, .slice A2 n2 c2] 36 (0, 0)))
    (hp1 : W.cell? (a1.add i) = some (.slice P1 l1 k1)) (hp2 : W.cell? (a2.add i) = some (.slice P2 l2 k2)) {st : ByteArray} (hst : strOfNums xs = st) (hc1 : Kd.C (Kd.int .u8) W P1 l1 xs) (hc2 : Kd.C (Kd.int .u8) W P2 l2 xs) (hb : Below W.heap.size W w') :
    w'.cell? ⟨b1, 3, none⟩ = some (.slice A1 n1 c1) ∧ w'.cell? ⟨b2, 3, none⟩ = some (.slice A2 n2 c2) ∧ w'.cell? (a1.add i) = some (.slice P1 l1 k1) ∧ w'.cell? (a2.add i) = some (.slice P2 l2 k2) ∧ (convert 22 9 (.slice P1 l1 k1)).run Try.prog w' = .ok (.string st) w' ∧ (convert 22 9 (.slice P2 l2 k2)).run Try.prog w' = .ok (.string st) w' :=
  ⟨pw_cell_below hb (boxB h1).2.2.2, pw_cell_below hb (boxB h2).2.2.2, pw_cell_below hb hp1, pw_cell_below hb hp2, conv22 (Kd.C_below hc1 hb) hst, conv22 (Kd.C_below hc2 hb) hst⟩
def reg_same1_6.T : Bool × List (List Nat × List Nat) := (true, [([], []), ([0], [0]), ([], []), ([1, 2], [1, 2]), ([3], [3]), ([4], [4]), ([], []), ([6], [6]), ([], []), ([7, 8], [7, 8]), ([9], [9]), ([10], [10]), ([5, 11], [5, 11])])
def reg_same1_6.B : List Nat := [0, 1, 0, 7, 15, 31, 0, 64, 0, 448, 960, 1984, 4095]
theorem reg_same1_6.tab : rtab .any (opsOf Try.f33 6) = reg_same1_6.T := by kernel_rfl
theorem reg_same1_6.bits : waitsOk reg_same1_6.T.2 reg_same1_6.B = true := by kernel_rfl
set_option maxHeartbeats 4000000 in
set_option maxRecDepth 100000 in
/-- SameBlock of two that are alike. -/
theorem same1 (w : World) (v1 v2 : Value) (B : Blk) (h1 : BlkR w v1 B) (h2 : BlkR w v2 B) (hl : B.pages.length ≤ 100000) :
    Calls Try.prog 33 #[v1, v2] w fun e w' => e = .returned (.bool true) ∧ Below w.heap.size w w' := by
  obtain ⟨pv1, rfl, A1, c1, rfl, hc1, hp1⟩ := h1
  obtain ⟨pv2, rfl, A2, c2, rfl, hc2, hp2⟩ := h2
  have HP1 := Aside0.mk hp1
  have HP2 := Aside0.mk hp2
  have HL := Aside0.mk hl
  obtain ⟨n, hn⟩ : ∃ n, B.pages.length = n := ⟨_, rfl⟩
  have HN := Aside0.mk hn
  rw [hn]
  clear hp1 hp2 hc1 hc2 hl hn
  go_enter Try.func33, Try.ntmps33
  go_upto_region 1 with fail
  obtain ⟨w2, hw2⟩ : ∃ w2, (w.alloc (.cells #[.bool B.bad, .int .i64 B.next, .int .i64 B.count, .slice A1 n c1] 36)).alloc (.cells #[.bool B.bad, .int .i64 B.next, .int .i64 B.count, .slice A2 n c2] 36) = w2 := ⟨_, rfl⟩
  obtain ⟨b1, hb1⟩ : ∃ b, w.heap.size = b := ⟨_, rfl⟩
  have HB2 : Aside0 (Below w.heap.size w w2) := ⟨by rw [← hw2]; exact below_alloc (below_alloc (Below.refl _ _) _) _⟩
  have HX1 : Aside0 (w2.heap[b1]? = some (.cells #[.bool B.bad, .int .i64 B.next, .int .i64 B.count, .slice A1 n c1] 36 (0, 0))) := ⟨by rw [← hw2, ← hb1]; exact blk_alloc (blk_new w _) _⟩
  have HX2 : Aside0 (w2.heap[b1 + 1]? = some (.cells #[.bool B.bad, .int .i64 B.next, .int .i64 B.count, .slice A2 n c2] 36 (0, 0))) := ⟨by rw [← hw2, ← hb1]; simpa using blk_new (w.alloc (.cells #[.bool B.bad, .int .i64 B.next, .int .i64 B.count, .slice A1 n c1] 36)) _⟩
  have HE1 := Aside0.mk hb1
  rw [hw2, hb1]
  obtain ⟨x0, x1, x2, x3⟩ := boxB HX1.out
  obtain ⟨y0, y1, y2, y3⟩ := boxB HX2.out
  clear hw2 hb1
  go_wp2_with fail
  clear x0 x1 x2 x3 y0 y1 y2 y3
  go_loopw [37] (fun v37 wr => ∃ i : Nat, i ≤ n ∧ v37 = .int .i64 (i : Int) ∧ Aside0 (Below w2.heap.size w2 wr)) (fun v37 _ => n - (intOf v37).toNat)
  case atStart => exact ⟨0, Nat.zero_le _, rfl, ⟨Below.refl _ _⟩⟩
  case round =>
    obtain ⟨i, hi, rfl, HB⟩ := hrel
    by_cases hlt : i < n
    · have hlt2 : (i : Int) < (n : Int) := by omega
      have HLT := Aside0.mk hlt
      have hw3 : wrap64 ((i : Int) + 1) = ((i + 1 : Nat) : Int) := by rw [show (i : Int) + 1 = ((i + 1 : Nat) : Int) by omega]; exact rwrap (by omega) (by have := HL.out; have := HN.out; omega)
      have HW3 := Aside0.mk hw3
      have hg : B.pages[i]? = some (B.pages[i]'(by rw [HN.out]; exact hlt)) := List.getElem?_eq_getElem _
      obtain ⟨xs, hxs⟩ : ∃ xs, B.pages[i]'(by rw [HN.out]; exact hlt) = xs := ⟨_, rfl⟩
      rw [hxs] at hg
      obtain ⟨a1, P1, k1, rfl, q1, q2, q3⟩ := HP1.out i xs hg
      obtain ⟨a2, P2, k2, rfl, r1, r2, r3⟩ := HP2.out i xs hg
      have HBw := Aside0.mk (below_step HB2.out HB.out)
      have HZ1 := Aside0.mk ((HB.out.block b1 (blk_lt HX1.out)).trans HX1.out)
      have HZ2 := Aside0.mk ((HB.out.block (b1 + 1) (blk_lt HX2.out)).trans HX2.out)
      have HQ1 := Aside0.mk (pw_cell_below HBw.out q1)
      have HR1 := Aside0.mk (pw_cell_below HBw.out r1)
      have HQ3 := Aside0.mk (Kd.C_below q3 HBw.out)
      have HR3 := Aside0.mk (Kd.C_below r3 HBw.out)
      clear hxs hg q1 q2 q3 r1 r2 r3 hi hlt hw3
      obtain ⟨m, hm⟩ : ∃ m, xs.length = m := ⟨_, rfl⟩
      rw [hm] at HQ1 HR1 HQ3 HR3
      go_upto_region 6 with fail
      obtain ⟨st, hst⟩ : ∃ st, strOfNums xs = st := ⟨_, rfl⟩
      have HST := Aside0.mk hst
      clear hst
      refine start_ (n := 13) (S := fun w' => w'.cell? ⟨b1, 3, none⟩ = some (.slice (some a1) n c1) ∧ w'.cell? ⟨b1 + 1, 3, none⟩ = some (.slice (some a2) n c2) ∧ w'.cell? (a1.add i) = some (.slice P1 m k1) ∧ w'.cell? (a2.add i) = some (.slice P2 m k2) ∧ (convert 22 9 (.slice P1 m k1)).run Try.prog w' = .ok (.string st) w' ∧ (convert 22 9 (.slice P2 m k2)).run Try.prog w' = .ok (.string st) w') (ds := []) #[false, false, false, false, false, false, false, false, false, false, false, false, false] (by kernel_rfl) rfl rfl (sameHeld HZ1.out HZ2.out HQ1.out HR1.out HST.out HQ3.out HR3.out (below_drew (Below.refl _ _))) (fun hHeld => ?_)
      refine with_tabW reg_same1_6.tab reg_same1_6.bits (fun HT_ HW_ => ?_)
      refine pure_ (i := 0) (N := (some 40)) (v := ?_) (a' := ?_) #[true, false, false, false, false, false, false, false, false, false, false, false, false] rfl rfl (any_of HT_.out (by kernel_rfl)) (fun _ _ _ h => h) (Or.inl ⟨by rfl, ?_⟩) ?_ ?_
      rotate_left
      · intro w'
        go_simp
        first | done | with_reducible rfl
      rotate_left
      · simp only [Act.put, List.setIfInBounds_toArray, List.set_cons_zero, List.set_cons_succ, i64_w, i32_w]
        rfl
      refine take_ (i := 1) (N := (some 41)) (v := ?_) (a' := ?_) #[true, true, false, false, false, false, false, false, false, false, false, false, false] rfl rfl (take_ofW HT_.out HW_.out (by kernel_rfl)) (fun _ _ _ h => h) (Or.inl ⟨by rfl, ?_⟩) hHeld ?_ ?_
      rotate_left
      · rintro w' ⟨s0, s1, s2, s3, s4, s5⟩
        go_simp
        first | done | with_reducible rfl
      rotate_left
      · simp only [Act.put, List.setIfInBounds_toArray, List.set_cons_zero, List.set_cons_succ, i64_w, i32_w]
        rfl
      refine pure_ (i := 2) (N := (some 42)) (v := ?_) (a' := ?_) #[true, true, true, false, false, false, false, false, false, false, false, false, false] rfl rfl (any_of HT_.out (by kernel_rfl)) (fun _ _ _ h => h) (Or.inl ⟨by rfl, ?_⟩) ?_ ?_
      rotate_left
      · intro w'
        go_simp
        first | done | with_reducible rfl
      rotate_left
      · simp only [Act.put, List.setIfInBounds_toArray, List.set_cons_zero, List.set_cons_succ, i64_w, i32_w]
        rfl
      refine pure_ (i := 3) (N := (some 43)) (v := ?_) (a' := ?_) #[true, true, true, true, false, false, false, false, false, false, false, false, false] rfl rfl (any_of HT_.out (by kernel_rfl)) (fun _ _ _ h => h) (Or.inl ⟨by rfl, ?_⟩) ?_ ?_
      rotate_left
      · intro w'
        go_simp
        first | done | with_reducible rfl
      rotate_left
      · simp only [Act.put, List.setIfInBounds_toArray, List.set_cons_zero, List.set_cons_succ, i64_w, i32_w]
        rfl
      refine take_ (i := 4) (N := (some 44)) (v := ?_) (a' := ?_) #[true, true, true, true, true, false, false, false, false, false, false, false, false] rfl rfl (take_ofW HT_.out HW_.out (by kernel_rfl)) (fun _ _ _ h => h) (Or.inl ⟨by rfl, ?_⟩) hHeld ?_ ?_
      rotate_left
      · rintro w' ⟨s0, s1, s2, s3, s4, s5⟩
        go_simp
        first | done | with_reducible rfl
      rotate_left
      · simp only [Act.put, List.setIfInBounds_toArray, List.set_cons_zero, List.set_cons_succ, i64_w, i32_w]
        rfl
      refine take_ (i := 5) (N := (some 45)) (v := ?_) (a' := ?_) #[true, true, true, true, true, true, false, false, false, false, false, false, false] rfl rfl (take_ofW HT_.out HW_.out (by kernel_rfl)) (fun _ _ _ h => h) (Or.inl ⟨by rfl, ?_⟩) hHeld ?_ ?_
      rotate_left
      · rintro w' ⟨s0, s1, s2, s3, s4, s5⟩
        go_simp
        first | done | with_reducible rfl
      rotate_left
      · simp only [Act.put, List.setIfInBounds_toArray, List.set_cons_zero, List.set_cons_succ, i64_w, i32_w]
        rfl
      refine pure_ (i := 6) (N := (some 46)) (v := ?_) (a' := ?_) #[true, true, true, true, true, true, true, false, false, false, false, false, false] rfl rfl (any_of HT_.out (by kernel_rfl)) (fun _ _ _ h => h) (Or.inl ⟨by rfl, ?_⟩) ?_ ?_
      rotate_left
      · intro w'
        go_simp
        first | done | with_reducible rfl
      rotate_left
      · simp only [Act.put, List.setIfInBounds_toArray, List.set_cons_zero, List.set_cons_succ, i64_w, i32_w]
        rfl
      refine take_ (i := 7) (N := (some 47)) (v := ?_) (a' := ?_) #[true, true, true, true, true, true, true, true, false, false, false, false, false] rfl rfl (take_ofW HT_.out HW_.out (by kernel_rfl)) (fun _ _ _ h => h) (Or.inl ⟨by rfl, ?_⟩) hHeld ?_ ?_
      rotate_left
      · rintro w' ⟨s0, s1, s2, s3, s4, s5⟩
        go_simp
        first | done | with_reducible rfl
      rotate_left
      · simp only [Act.put, List.setIfInBounds_toArray, List.set_cons_zero, List.set_cons_succ, i64_w, i32_w]
        rfl
      refine pure_ (i := 8) (N := (some 48)) (v := ?_) (a' := ?_) #[true, true, true, true, true, true, true, true, true, false, false, false, false] rfl rfl (any_of HT_.out (by kernel_rfl)) (fun _ _ _ h => h) (Or.inl ⟨by rfl, ?_⟩) ?_ ?_
      rotate_left
      · intro w'
        go_simp
        first | done | with_reducible rfl
      rotate_left
      · simp only [Act.put, List.setIfInBounds_toArray, List.set_cons_zero, List.set_cons_succ, i64_w, i32_w]
        rfl
      refine pure_ (i := 9) (N := (some 49)) (v := ?_) (a' := ?_) #[true, true, true, true, true, true, true, true, true, true, false, false, false] rfl rfl (any_of HT_.out (by kernel_rfl)) (fun _ _ _ h => h) (Or.inl ⟨by rfl, ?_⟩) ?_ ?_
      rotate_left
      · intro w'
        go_simp
        first | done | with_reducible rfl
      rotate_left
      · simp only [Act.put, List.setIfInBounds_toArray, List.set_cons_zero, List.set_cons_succ, i64_w, i32_w]
        rfl
      refine take_ (i := 10) (N := (some 50)) (v := ?_) (a' := ?_) #[true, true, true, true, true, true, true, true, true, true, true, false, false] rfl rfl (take_ofW HT_.out HW_.out (by kernel_rfl)) (fun _ _ _ h => h) (Or.inl ⟨by rfl, ?_⟩) hHeld ?_ ?_
      rotate_left
      · rintro w' ⟨s0, s1, s2, s3, s4, s5⟩
        go_simp
        first | done | with_reducible rfl
      rotate_left
      · simp only [Act.put, List.setIfInBounds_toArray, List.set_cons_zero, List.set_cons_succ, i64_w, i32_w]
        rfl
      refine take_ (i := 11) (N := (some 51)) (v := ?_) (a' := ?_) #[true, true, true, true, true, true, true, true, true, true, true, true, false] rfl rfl (take_ofW HT_.out HW_.out (by kernel_rfl)) (fun _ _ _ h => h) (Or.inl ⟨by rfl, ?_⟩) hHeld ?_ ?_
      rotate_left
      · rintro w' ⟨s0, s1, s2, s3, s4, s5⟩
        go_simp
        first | done | with_reducible rfl
      rotate_left
      · simp only [Act.put, List.setIfInBounds_toArray, List.set_cons_zero, List.set_cons_succ, i64_w, i32_w]
        rfl
      refine pure_ (i := 12) (N := (some 52)) (v := ?_) (a' := ?_) #[true, true, true, true, true, true, true, true, true, true, true, true, true] rfl rfl (any_of HT_.out (by kernel_rfl)) (fun _ _ _ h => h) (Or.inl ⟨by rfl, ?_⟩) ?_ ?_
      rotate_left
      · intro w'
        go_simp
        first | done | with_reducible rfl
      rotate_left
      · simp only [Act.put, List.setIfInBounds_toArray, List.set_cons_zero, List.set_cons_succ, i64_w, i32_w]
        rfl
      refine done_ (done_of HT_.out (by kernel_rfl)) ?_
      have hw3 := HW3.out
      clear hHeld HT_ HW_
      go_wp2_with fail
      go_roundw
      case measure =>
        have hm : n - ((i + 1 : Nat) : Int).toNat < n - ((i : Nat) : Int).toNat := by
          rw [Int.toNat_natCast, Int.toNat_natCast]
          exact Nat.sub_lt_sub_left HLT.out (Nat.lt_succ_self i)
        first | exact hm | (rw [hw3]; exact hm)
      case rel => exact ⟨i + 1, HLT.out, by first | rw [hw3] | rfl, ⟨below_drew HB.out⟩⟩
    · have he : i = n := by omega
      subst he
      have hnn : ¬ (((i : Nat) : Int) < (i : Int)) := by omega
      have HBw := Aside0.mk (below_step HB2.out HB.out)
      clear hlt hi
      go_wp2_with fail
      go_ret
      exact ⟨rfl, HBw.out⟩
end Go.Proofs.Ytloldgiggnhemaa.Cm
