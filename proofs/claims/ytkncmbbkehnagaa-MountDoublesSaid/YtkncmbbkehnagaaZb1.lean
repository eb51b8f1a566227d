import Derived.Test.YtkncmbbkehnagaaZb0
import Derived.Lib.SliceRun
set_option linter.unusedVariables false
set_option linter.unusedSimpArgs false
/-! The chip's Program. -/
namespace Go.Proofs.Ytkncmbbkehnagaa.Cm
open Go.RowKit Go.Proofs.YtkncmbbkehnagaaW.PrintWords Go.Proofs.YtkncmbbkehnagaaW.PrintLast Go.Proofs.YtkncmbbkehnagaaW.PrintMore Go.Proofs.Ytkncmbbkehnagaa.Kp Go.Proofs.Ytkncmbbkehnagaa.Cp
attribute [local go_sem] max2_int min2_int max_two min_two max_three min_three max_four min_four

/-- New blocks are the chip's. -/
def Fr (ok : Nat → Prop) (w : World) : Prop := ∀ k, w.heap.size ≤ k → ok k
def nextB (B : Blk) : Blk := { B with next := wrap64 (B.next + 1) }
def pageB (j : Nat) (xs : List Int) (B : Blk) : Blk := { B with pages := B.pages.set j xs }
def badB (B : Blk) : Blk := { B with bad := true }
def bump (s : Chp) (i : Nat) : Chp := { s.mod i nextB with bp := wrap64 (s.bp + 1), cut := dec s.cut, fail := dec s.fail }
/-- What Program does: the chip, the answer. -/
def progS (s : Chp) (b p : Int) (xs : List Int) : Chp × Int :=
  if spotB s b p = true ∧ 1 ≤ xs.length ∧ xs.length ≤ 2000 then
    if s.down = true then (s, 2) else
    match s.blocks[b.toNat]? with
    | none => (s, 1)
    | some B =>
      if B.bad = true then (s, 3) else if p ≠ B.next then (s, 4) else
      if s.cut = 0 then ({ (bump s b.toNat).mod b.toNat (pageB p.toNat (xs.take s.keep.toNat)) with down := true }, 2)
      else if s.fail = 0 then (((bump s b.toNat).mod b.toNat (pageB p.toNat (xs.take (xs.length / 2)))).mod b.toNat badB, 3)
      else ((bump s b.toNat).mod b.toNat (pageB p.toNat xs), 0)
  else (s, 1)
theorem dec_range {n : Int} (h1 : -1 ≤ n) (h2 : n ≤ 9223372036854775807) : -1 ≤ dec n ∧ dec n ≤ 9223372036854775807 ∧ (n ≤ 0 → dec n = -1) ∧ (0 < n → dec n = n - 1) := by
  unfold dec mx wrap64
  split <;> omega
theorem fresh_R {w w1 : World} {base : Nat} {ok : Nat → Prop} {v : Value} {xs : List Int} (h : Kd.R (Kd.int .u8) 5 w1 w.heap.size (fun _ => True) v xs) (hf : Fr ok w) (hb : base ≤ w.heap.size) : Kd.R (Kd.int .u8) 5 w1 base ok v xs :=
  Kd.R_lower (Kd.R_mono (Kd.R_bound h) (fun k hk => hf k hk.2.1)) hb
set_option maxHeartbeats 8000000 in
set_option maxRecDepth 100000 in
theorem prog_arg {w : World} {base : Nat} {ok : Nat → Prop} {g : Nat} {s : Chp} (hI : IsChip w base ok g s) (b p : Int) (A : Option Addr) (c : Nat) (xs : List Int) (hx : ¬ (spotB s b p = true ∧ 1 ≤ xs.length ∧ xs.length ≤ 2000)) :
    Calls Try.prog 13 #[.pointer (some ⟨g, 0, none⟩), .agg #[.int .i64 b, .int .i64 p], .slice A xs.length c] w fun e w' => e = .returned (.int .i64 1) ∧ Now w base ok g s w' := by
  have HB := Aside0.mk (below_alloc (Below.refl _ w) (.cells #[.int .i64 b, .int .i64 p] 40))
  have hI1 := hI.below HB.out
  obtain ⟨w1, hw1⟩ : ∃ w1, w.alloc (.cells #[.int .i64 b, .int .i64 p] 40) = w1 := ⟨_, rfl⟩
  obtain ⟨bx, hbx⟩ : ∃ bx, w.heap.size = bx := ⟨_, rfl⟩
  have hbox : w1.heap[bx]? = some (.cells #[.int .i64 b, .int .i64 p] 40 (0, 0)) := by rw [← hw1, ← hbx]; simpa using heap_alloc_new w (.cells #[.int .i64 b, .int .i64 p] 40)
  rw [hw1] at HB hI1
  have HI1 := Aside0.mk hI1
  have HI := Aside0.mk hI
  have HBX := Aside0.mk hbox
  have HW := Aside0.mk hw1
  have HX := Aside0.mk hbx
  obtain ⟨x0, x1⟩ := two hbox
  clear hI hI1 hbox hw1 hbx
  cases hs : spotB s b p with
  | false =>
    have HS := Aside0.mk hs
    clear hs hx
    go_enter Try.func13, Try.ntmps13
    go_wp2_with fail
    rw [HW.out, HX.out]
    have hcc := spot HI1.out b p
    rw [HS.out] at hcc
    refine hcc.mono ?_
    clear hcc
    rintro ev w2 ⟨rfl, hb⟩
    have HI2 := Aside0.mk (HI1.out.below hb)
    have HK2 := Aside0.mk ((Kp.of_below HB.out ok).below hb)
    clear hb
    go_wp2_with fail
    go_ret
    exact ⟨rfl, HI2.out, HK2.out⟩
  | true =>
    have HS := Aside0.mk hs
    by_cases h1 : 1 ≤ xs.length
    · have h2 : decide ((xs.length : Int) < 1) = false := decide_eq_false (by omega)
      have h2n : decide (xs.length < 1) = false := decide_eq_false (by omega)
      have h3 : ((xs.length : Int) > 2000) := by have : ¬ xs.length ≤ 2000 := fun h => hx ⟨hs, h1, h⟩; omega
      clear hs hx h1
      go_enter Try.func13, Try.ntmps13
      go_wp2_with fail
      rw [HW.out, HX.out]
      have hcc := spot HI1.out b p
      rw [HS.out] at hcc
      refine hcc.mono ?_
      clear hcc
      rintro ev w2 ⟨rfl, hb⟩
      have HI2 := Aside0.mk (HI1.out.below hb)
      have HK2 := Aside0.mk ((Kp.of_below HB.out ok).below hb)
      clear hb
      go_wp2_with fail
      go_ret
      exact ⟨rfl, HI2.out, HK2.out⟩
    · have h2 : decide ((xs.length : Int) < 1) = true := decide_eq_true (by omega)
      have h2n : decide (xs.length < 1) = true := decide_eq_true (by omega)
      clear hs hx h1
      go_enter Try.func13, Try.ntmps13
      go_wp2_with fail
      rw [HW.out, HX.out]
      have hcc := spot HI1.out b p
      rw [HS.out] at hcc
      refine hcc.mono ?_
      clear hcc
      rintro ev w2 ⟨rfl, hb⟩
      have HI2 := Aside0.mk (HI1.out.below hb)
      have HK2 := Aside0.mk ((Kp.of_below HB.out ok).below hb)
      clear hb
      go_wp2_with fail
      go_ret
      exact ⟨rfl, HI2.out, HK2.out⟩
theorem placeHeld {w w' : World} {base : Nat} {ok : Nat → Prop} {g h cap bx : Nat} {cs : Array Value} {pg : Nat → Nat} {s : Chp} {i j : Nat} {B : Blk} (r : Rep w base ok g h cap cs pg s) (hbx : w.heap[bx]? = some (.cells #[.int .i64 (i : Int), .int .i64 (j : Int)] 40 (0, 0)))
    (hB : s.blocks[i]? = some B) {nx : Int} (hnx : B.next = nx) (hb : Below w.heap.size w w') :
    (w'.cell? ⟨bx, 0, none⟩ = some (.int .i64 (i : Int)) ∧ w'.cell? ⟨bx, 1, none⟩ = some (.int .i64 (j : Int))) ∧ w'.cell? ⟨g, 0, none⟩ = some (.slice (some ⟨h, 0, none⟩) s.blocks.length cap) ∧ w'.cell? ⟨h, i * 4 + 1, none⟩ = some (.int .i64 nx) ∧ w'.cell? ⟨h, i * 4 + 3, none⟩ = some (.slice (some ⟨pg i, 0, none⟩) B.pages.length B.pages.length) ∧ w'.cell? ⟨g, 8, none⟩ = some (.int .i64 s.keep) :=
  ⟨⟨pw_cell_below hb (two hbx).1, pw_cell_below hb (two hbx).2⟩, pw_cell_below hb (ten r).1.1, pw_cell_below hb (hnx ▸ (rowCells r hB).2.1), pw_cell_below hb (rowCells r hB).2.2.2, pw_cell_below hb (ten r).2.1.2.2.2.1⟩
def reg_program_3.T : Bool × List (List Nat × List Nat) := (true, [([], []), ([0], [0]), ([1], [1]), ([2], [2]), ([], []), ([4], [4]), ([3, 5], [3, 5]), ([6, 0, 1, 2, 3, 4, 5, 6], [6])])
def reg_program_3.B : List Nat := [0, 1, 3, 7, 0, 16, 63, 127]
theorem reg_program_3.tab : rtab .any (opsOf Try.f13 3) = reg_program_3.T := by kernel_rfl
theorem reg_program_3.bits : waitsOk reg_program_3.T.2 reg_program_3.B = true := by kernel_rfl
def reg_program_8.T : Bool × List (List Nat × List Nat) := (true, [([], []), ([0], [0]), ([], []), ([2], [2]), ([3], [3]), ([4], [4]), ([1, 5], [1, 5]), ([6], [6])])
def reg_program_8.B : List Nat := [0, 1, 0, 4, 12, 28, 63, 127]
theorem reg_program_8.tab : rtab .any (opsOf Try.f13 8) = reg_program_8.T := by kernel_rfl
theorem reg_program_8.bits : waitsOk reg_program_8.T.2 reg_program_8.B = true := by kernel_rfl
set_option maxHeartbeats 8000000 in
set_option maxRecDepth 100000 in
theorem prog_down {w : World} {base : Nat} {ok : Nat → Prop} {g : Nat} {s : Chp} (hI : IsChip w base ok g s) (i j : Nat) (B : Blk) (A : Option Addr) (c : Nat) (xs : List Int) (hs : spotB s (i : Int) (j : Int) = true) (hB : s.blocks[i]? = some B) (hi : i < s.blocks.length) (hj : j < B.pages.length) (hl : 1 ≤ xs.length ∧ xs.length ≤ 2000) (hd : s.down = true) :
    Calls Try.prog 13 #[.pointer (some ⟨g, 0, none⟩), .agg #[.int .i64 (i : Int), .int .i64 (j : Int)], .slice A xs.length c] w fun e w' => e = .returned (.int .i64 2) ∧ Now w base ok g s w' := by
  have HB := Aside0.mk (below_alloc (Below.refl _ w) (.cells #[.int .i64 (i : Int), .int .i64 (j : Int)] 40))
  have hI1 := hI.below HB.out
  obtain ⟨w1, hw1⟩ : ∃ w1, w.alloc (.cells #[.int .i64 (i : Int), .int .i64 (j : Int)] 40) = w1 := ⟨_, rfl⟩
  obtain ⟨bx, hbx⟩ : ∃ bx, w.heap.size = bx := ⟨_, rfl⟩
  have hbox : w1.heap[bx]? = some (.cells #[.int .i64 (i : Int), .int .i64 (j : Int)] 40 (0, 0)) := by rw [← hw1, ← hbx]; simpa using heap_alloc_new w (.cells #[.int .i64 (i : Int), .int .i64 (j : Int)] 40)
  rw [hw1] at HB hI1
  have HI1 := Aside0.mk hI1
  have HI := Aside0.mk hI
  have HBX := Aside0.mk hbox
  have HW := Aside0.mk hw1
  have HX := Aside0.mk hbx
  obtain ⟨x0, x1⟩ := two hbox
  clear hI hI1 hbox hw1 hbx
  have hl1 : decide ((xs.length : Int) < 1) = false := decide_eq_false (by omega)
  have hl2 : decide ((xs.length : Int) > 2000) = false := decide_eq_false (by omega)
  have hl1n : decide (xs.length < 1) = false := decide_eq_false (by omega)
  have hl2n : decide (xs.length > 2000) = false := decide_eq_false (by omega)
  have hin : ((i : Nat) : Int) < (s.blocks.length : Int) := by omega
  have hjn : ((j : Nat) : Int) < (B.pages.length : Int) := by omega
  have HS := Aside0.mk hs
  have HBk := Aside0.mk hB
  have HLn := Aside0.mk hl
  have HJ := Aside0.mk hj
  have HIn := Aside0.mk hi
  clear hs hB hi hj hl
  go_enter Try.func13, Try.ntmps13
  go_wp2_with fail
  rw [HW.out, HX.out]
  have hcc := spot HI1.out (i : Int) (j : Int)
  rw [HS.out] at hcc
  refine hcc.mono ?_
  clear hcc
  rintro ev w2 ⟨rfl, hb⟩
  have HBX2 := Aside0.mk ((hb.block bx (blk_lt HBX.out)).trans HBX.out)
  have HK2 := Aside0.mk ((Kp.of_below HB.out ok).below hb)
  have hI2 := HI1.out.below hb
  obtain ⟨h, cap, cs, pg, r⟩ := hI2
  have HR2 := Aside0.mk r
  clear r hb x0 x1
  go_upto_region 3 with fail
  refine start_ (n := 8) (S := fun w' => (w'.cell? ⟨bx, 0, none⟩ = some (.int .i64 (i : Int)) ∧ w'.cell? ⟨bx, 1, none⟩ = some (.int .i64 (j : Int))) ∧ w'.cell? ⟨g, 0, none⟩ = some (.slice (some ⟨h, 0, none⟩) s.blocks.length cap) ∧ w'.cell? ⟨h, i * 4 + 1, none⟩ = some (.int .i64 B.next) ∧ w'.cell? ⟨h, i * 4 + 3, none⟩ = some (.slice (some ⟨pg i, 0, none⟩) B.pages.length B.pages.length) ∧ w'.cell? ⟨g, 8, none⟩ = some (.int .i64 s.keep)) (ds := []) #[false, false, false, false, false, false, false, false] (by kernel_rfl) rfl rfl (placeHeld HR2.out HBX2.out HBk.out rfl (below_drew (Below.refl _ _))) (fun hHeld => ?_)
  refine with_tabW reg_program_3.tab reg_program_3.bits (fun HT_ HW_ => ?_)
  refine pure_ (i := 0) (N := (some 24)) (v := ?_) (a' := ?_) #[true, false, false, false, false, false, false, false] rfl rfl (any_of HT_.out (by kernel_rfl)) (fun _ _ _ h => h) (Or.inl ⟨by rfl, ?_⟩) ?_ ?_
  rotate_left
  · intro w'
    go_simp
    first | done | with_reducible rfl
  rotate_left
  · simp only [Act.put, List.setIfInBounds_toArray, List.set_cons_zero, List.set_cons_succ, i64_w, i32_w]
    rfl
  refine pure_ (i := 1) (N := (some 25)) (v := ?_) (a' := ?_) #[true, true, false, false, false, false, false, false] rfl rfl (any_of HT_.out (by kernel_rfl)) (fun _ _ _ h => h) (Or.inl ⟨by rfl, ?_⟩) ?_ ?_
  rotate_left
  · intro w'
    go_simp
    first | done | with_reducible rfl
  rotate_left
  · simp only [Act.put, List.setIfInBounds_toArray, List.set_cons_zero, List.set_cons_succ, i64_w, i32_w]
    rfl
  refine pure_ (i := 2) (N := (some 26)) (v := ?_) (a' := ?_) #[true, true, true, false, false, false, false, false] rfl rfl (any_of HT_.out (by kernel_rfl)) (fun _ _ _ h => h) (Or.inl ⟨by rfl, ?_⟩) ?_ ?_
  rotate_left
  · intro w'
    go_simp
    first | done | with_reducible rfl
  rotate_left
  · simp only [Act.put, List.setIfInBounds_toArray, List.set_cons_zero, List.set_cons_succ, i64_w, i32_w]
    rfl
  refine take_ (i := 3) (N := (some 27)) (v := ?_) (a' := ?_) #[true, true, true, true, false, false, false, false] rfl rfl (take_ofW HT_.out HW_.out (by kernel_rfl)) (fun _ _ _ h => h) (Or.inl ⟨by rfl, ?_⟩) hHeld ?_ ?_
  rotate_left
  · rintro w' ⟨⟨s0, s1⟩, s2, s3, s4, s5⟩
    go_simp
    first | done | with_reducible rfl
  rotate_left
  · simp only [Act.put, List.setIfInBounds_toArray, List.set_cons_zero, List.set_cons_succ, i64_w, i32_w]
    rfl
  refine pure_ (i := 4) (N := (some 28)) (v := ?_) (a' := ?_) #[true, true, true, true, true, false, false, false] rfl rfl (any_of HT_.out (by kernel_rfl)) (fun _ _ _ h => h) (Or.inl ⟨by rfl, ?_⟩) ?_ ?_
  rotate_left
  · intro w'
    go_simp
    first | done | with_reducible rfl
  rotate_left
  · simp only [Act.put, List.setIfInBounds_toArray, List.set_cons_zero, List.set_cons_succ, i64_w, i32_w]
    rfl
  refine take_ (i := 5) (N := (some 29)) (v := ?_) (a' := ?_) #[true, true, true, true, true, true, false, false] rfl rfl (take_ofW HT_.out HW_.out (by kernel_rfl)) (fun _ _ _ h => h) (Or.inl ⟨by rfl, ?_⟩) hHeld ?_ ?_
  rotate_left
  · rintro w' ⟨⟨s0, s1⟩, s2, s3, s4, s5⟩
    go_simp
    first | done | with_reducible rfl
  rotate_left
  · simp only [Act.put, List.setIfInBounds_toArray, List.set_cons_zero, List.set_cons_succ, i64_w, i32_w]
    rfl
  refine take_ (i := 6) (N := (some 30)) (v := ?_) (a' := ?_) #[true, true, true, true, true, true, true, false] rfl rfl (take_ofW HT_.out HW_.out (by kernel_rfl)) (fun _ _ _ h => h) (Or.inl ⟨by rfl, ?_⟩) hHeld ?_ ?_
  rotate_left
  · rintro w' ⟨⟨s0, s1⟩, s2, s3, s4, s5⟩
    go_simp
    first | done | with_reducible rfl
  rotate_left
  · simp only [Act.put, List.setIfInBounds_toArray, List.set_cons_zero, List.set_cons_succ, i64_w, i32_w]
    rfl
  refine pure_ (i := 7) (N := (some 7)) (v := ?_) (a' := ?_) #[true, true, true, true, true, true, true, true] rfl rfl (any_of HT_.out (by kernel_rfl)) (fun _ _ _ h => h) (Or.inl ⟨by rfl, ?_⟩) ?_ ?_
  rotate_left
  · intro w'
    go_simp
    first | done | with_reducible rfl
  rotate_left
  · simp only [Act.put, List.setIfInBounds_toArray, List.set_cons_zero, List.set_cons_succ, i64_w, i32_w]
    rfl
  refine done_ (done_of HT_.out (by kernel_rfl)) ?_
  obtain ⟨w3, hw3⟩ : ∃ w3, w2.drew = w3 := ⟨_, rfl⟩
  have hb3 : Below w2.heap.size w2 w3 := by rw [← hw3]; exact below_drew (Below.refl _ _)
  have HR3 := Aside0.mk (HR2.out.below hb3)
  have HK3 := Aside0.mk (HK2.out.below hb3)
  have HBX3 := Aside0.mk ((hb3.block bx (blk_lt HBX2.out)).trans HBX2.out)
  rw [hw3]
  clear hw3 hb3 HR2 HK2 HBX2 hHeld HT_ HW_
  obtain ⟨-, ⟨-, -, -, -, c9⟩, -⟩ := ten HR3.out
  obtain ⟨d0, d1, d2, d3⟩ := rowCells HR3.out HBk.out
  rw [hd] at c9
  clear hd
  go_wp2_with fail
  go_ret
  exact ⟨rfl, ⟨_, _, _, _, HR3.out⟩, HK3.out⟩
set_option maxHeartbeats 8000000 in
set_option maxRecDepth 100000 in
theorem prog_bad {w : World} {base : Nat} {ok : Nat → Prop} {g : Nat} {s : Chp} (hI : IsChip w base ok g s) (i j : Nat) (B : Blk) (A : Option Addr) (c : Nat) (xs : List Int) (hs : spotB s (i : Int) (j : Int) = true) (hB : s.blocks[i]? = some B) (hi : i < s.blocks.length) (hj : j < B.pages.length) (hl : 1 ≤ xs.length ∧ xs.length ≤ 2000) (hd : s.down = false) (hbad : B.bad = true) :
    Calls Try.prog 13 #[.pointer (some ⟨g, 0, none⟩), .agg #[.int .i64 (i : Int), .int .i64 (j : Int)], .slice A xs.length c] w fun e w' => e = .returned (.int .i64 3) ∧ Now w base ok g s w' := by
  have HB := Aside0.mk (below_alloc (Below.refl _ w) (.cells #[.int .i64 (i : Int), .int .i64 (j : Int)] 40))
  have hI1 := hI.below HB.out
  obtain ⟨w1, hw1⟩ : ∃ w1, w.alloc (.cells #[.int .i64 (i : Int), .int .i64 (j : Int)] 40) = w1 := ⟨_, rfl⟩
  obtain ⟨bx, hbx⟩ : ∃ bx, w.heap.size = bx := ⟨_, rfl⟩
  have hbox : w1.heap[bx]? = some (.cells #[.int .i64 (i : Int), .int .i64 (j : Int)] 40 (0, 0)) := by rw [← hw1, ← hbx]; simpa using heap_alloc_new w (.cells #[.int .i64 (i : Int), .int .i64 (j : Int)] 40)
  rw [hw1] at HB hI1
  have HI1 := Aside0.mk hI1
  have HI := Aside0.mk hI
  have HBX := Aside0.mk hbox
  have HW := Aside0.mk hw1
  have HX := Aside0.mk hbx
  obtain ⟨x0, x1⟩ := two hbox
  clear hI hI1 hbox hw1 hbx
  have hl1 : decide ((xs.length : Int) < 1) = false := decide_eq_false (by omega)
  have hl2 : decide ((xs.length : Int) > 2000) = false := decide_eq_false (by omega)
  have hl1n : decide (xs.length < 1) = false := decide_eq_false (by omega)
  have hl2n : decide (xs.length > 2000) = false := decide_eq_false (by omega)
  have hin : ((i : Nat) : Int) < (s.blocks.length : Int) := by omega
  have hjn : ((j : Nat) : Int) < (B.pages.length : Int) := by omega
  have HS := Aside0.mk hs
  have HBk := Aside0.mk hB
  have HLn := Aside0.mk hl
  have HJ := Aside0.mk hj
  have HIn := Aside0.mk hi
  clear hs hB hi hj hl
  go_enter Try.func13, Try.ntmps13
  go_wp2_with fail
  rw [HW.out, HX.out]
  have hcc := spot HI1.out (i : Int) (j : Int)
  rw [HS.out] at hcc
  refine hcc.mono ?_
  clear hcc
  rintro ev w2 ⟨rfl, hb⟩
  have HBX2 := Aside0.mk ((hb.block bx (blk_lt HBX.out)).trans HBX.out)
  have HK2 := Aside0.mk ((Kp.of_below HB.out ok).below hb)
  have hI2 := HI1.out.below hb
  obtain ⟨h, cap, cs, pg, r⟩ := hI2
  have HR2 := Aside0.mk r
  clear r hb x0 x1
  go_upto_region 3 with fail
  refine start_ (n := 8) (S := fun w' => (w'.cell? ⟨bx, 0, none⟩ = some (.int .i64 (i : Int)) ∧ w'.cell? ⟨bx, 1, none⟩ = some (.int .i64 (j : Int))) ∧ w'.cell? ⟨g, 0, none⟩ = some (.slice (some ⟨h, 0, none⟩) s.blocks.length cap) ∧ w'.cell? ⟨h, i * 4 + 1, none⟩ = some (.int .i64 B.next) ∧ w'.cell? ⟨h, i * 4 + 3, none⟩ = some (.slice (some ⟨pg i, 0, none⟩) B.pages.length B.pages.length) ∧ w'.cell? ⟨g, 8, none⟩ = some (.int .i64 s.keep)) (ds := []) #[false, false, false, false, false, false, false, false] (by kernel_rfl) rfl rfl (placeHeld HR2.out HBX2.out HBk.out rfl (below_drew (Below.refl _ _))) (fun hHeld => ?_)
  refine with_tabW reg_program_3.tab reg_program_3.bits (fun HT_ HW_ => ?_)
  refine pure_ (i := 0) (N := (some 24)) (v := ?_) (a' := ?_) #[true, false, false, false, false, false, false, false] rfl rfl (any_of HT_.out (by kernel_rfl)) (fun _ _ _ h => h) (Or.inl ⟨by rfl, ?_⟩) ?_ ?_
  rotate_left
  · intro w'
    go_simp
    first | done | with_reducible rfl
  rotate_left
  · simp only [Act.put, List.setIfInBounds_toArray, List.set_cons_zero, List.set_cons_succ, i64_w, i32_w]
    rfl
  refine pure_ (i := 1) (N := (some 25)) (v := ?_) (a' := ?_) #[true, true, false, false, false, false, false, false] rfl rfl (any_of HT_.out (by kernel_rfl)) (fun _ _ _ h => h) (Or.inl ⟨by rfl, ?_⟩) ?_ ?_
  rotate_left
  · intro w'
    go_simp
    first | done | with_reducible rfl
  rotate_left
  · simp only [Act.put, List.setIfInBounds_toArray, List.set_cons_zero, List.set_cons_succ, i64_w, i32_w]
    rfl
  refine pure_ (i := 2) (N := (some 26)) (v := ?_) (a' := ?_) #[true, true, true, false, false, false, false, false] rfl rfl (any_of HT_.out (by kernel_rfl)) (fun _ _ _ h => h) (Or.inl ⟨by rfl, ?_⟩) ?_ ?_
  rotate_left
  · intro w'
    go_simp
    first | done | with_reducible rfl
  rotate_left
  · simp only [Act.put, List.setIfInBounds_toArray, List.set_cons_zero, List.set_cons_succ, i64_w, i32_w]
    rfl
  refine take_ (i := 3) (N := (some 27)) (v := ?_) (a' := ?_) #[true, true, true, true, false, false, false, false] rfl rfl (take_ofW HT_.out HW_.out (by kernel_rfl)) (fun _ _ _ h => h) (Or.inl ⟨by rfl, ?_⟩) hHeld ?_ ?_
  rotate_left
  · rintro w' ⟨⟨s0, s1⟩, s2, s3, s4, s5⟩
    go_simp
    first | done | with_reducible rfl
  rotate_left
  · simp only [Act.put, List.setIfInBounds_toArray, List.set_cons_zero, List.set_cons_succ, i64_w, i32_w]
    rfl
  refine pure_ (i := 4) (N := (some 28)) (v := ?_) (a' := ?_) #[true, true, true, true, true, false, false, false] rfl rfl (any_of HT_.out (by kernel_rfl)) (fun _ _ _ h => h) (Or.inl ⟨by rfl, ?_⟩) ?_ ?_
  rotate_left
  · intro w'
    go_simp
    first | done | with_reducible rfl
  rotate_left
  · simp only [Act.put, List.setIfInBounds_toArray, List.set_cons_zero, List.set_cons_succ, i64_w, i32_w]
    rfl
  refine take_ (i := 5) (N := (some 29)) (v := ?_) (a' := ?_) #[true, true, true, true, true, true, false, false] rfl rfl (take_ofW HT_.out HW_.out (by kernel_rfl)) (fun _ _ _ h => h) (Or.inl ⟨by rfl, ?_⟩) hHeld ?_ ?_
  rotate_left
  · rintro w' ⟨⟨s0, s1⟩, s2, s3, s4, s5⟩
    go_simp
    first | done | with_reducible rfl
  rotate_left
  · simp only [Act.put, List.setIfInBounds_toArray, List.set_cons_zero, List.set_cons_succ, i64_w, i32_w]
    rfl
  refine take_ (i := 6) (N := (some 30)) (v := ?_) (a' := ?_) #[true, true, true, true, true, true, true, false] rfl rfl (take_ofW HT_.out HW_.out (by kernel_rfl)) (fun _ _ _ h => h) (Or.inl ⟨by rfl, ?_⟩) hHeld ?_ ?_
  rotate_left
  · rintro w' ⟨⟨s0, s1⟩, s2, s3, s4, s5⟩
    go_simp
    first | done | with_reducible rfl
  rotate_left
  · simp only [Act.put, List.setIfInBounds_toArray, List.set_cons_zero, List.set_cons_succ, i64_w, i32_w]
    rfl
  refine pure_ (i := 7) (N := (some 7)) (v := ?_) (a' := ?_) #[true, true, true, true, true, true, true, true] rfl rfl (any_of HT_.out (by kernel_rfl)) (fun _ _ _ h => h) (Or.inl ⟨by rfl, ?_⟩) ?_ ?_
  rotate_left
  · intro w'
    go_simp
    first | done | with_reducible rfl
  rotate_left
  · simp only [Act.put, List.setIfInBounds_toArray, List.set_cons_zero, List.set_cons_succ, i64_w, i32_w]
    rfl
  refine done_ (done_of HT_.out (by kernel_rfl)) ?_
  obtain ⟨w3, hw3⟩ : ∃ w3, w2.drew = w3 := ⟨_, rfl⟩
  have hb3 : Below w2.heap.size w2 w3 := by rw [← hw3]; exact below_drew (Below.refl _ _)
  have HR3 := Aside0.mk (HR2.out.below hb3)
  have HK3 := Aside0.mk (HK2.out.below hb3)
  have HBX3 := Aside0.mk ((hb3.block bx (blk_lt HBX2.out)).trans HBX2.out)
  rw [hw3]
  clear hw3 hb3 HR2 HK2 HBX2 hHeld HT_ HW_
  obtain ⟨-, ⟨-, -, -, -, c9⟩, -⟩ := ten HR3.out
  obtain ⟨d0, d1, d2, d3⟩ := rowCells HR3.out HBk.out
  rw [hd] at c9
  rw [hbad] at d0
  clear hd hbad
  go_wp2_with fail
  go_ret
  exact ⟨rfl, ⟨_, _, _, _, HR3.out⟩, HK3.out⟩
set_option maxHeartbeats 8000000 in
set_option maxRecDepth 100000 in
theorem prog_order {w : World} {base : Nat} {ok : Nat → Prop} {g : Nat} {s : Chp} (hI : IsChip w base ok g s) (i j : Nat) (B : Blk) (A : Option Addr) (c : Nat) (xs : List Int) (hs : spotB s (i : Int) (j : Int) = true) (hB : s.blocks[i]? = some B) (hi : i < s.blocks.length) (hj : j < B.pages.length) (hl : 1 ≤ xs.length ∧ xs.length ≤ 2000) (hd : s.down = false) (hbad : B.bad = false) (hn : ((j : Nat) : Int) ≠ B.next) :
    Calls Try.prog 13 #[.pointer (some ⟨g, 0, none⟩), .agg #[.int .i64 (i : Int), .int .i64 (j : Int)], .slice A xs.length c] w fun e w' => e = .returned (.int .i64 4) ∧ Now w base ok g s w' := by
  have HB := Aside0.mk (below_alloc (Below.refl _ w) (.cells #[.int .i64 (i : Int), .int .i64 (j : Int)] 40))
  have hI1 := hI.below HB.out
  obtain ⟨w1, hw1⟩ : ∃ w1, w.alloc (.cells #[.int .i64 (i : Int), .int .i64 (j : Int)] 40) = w1 := ⟨_, rfl⟩
  obtain ⟨bx, hbx⟩ : ∃ bx, w.heap.size = bx := ⟨_, rfl⟩
  have hbox : w1.heap[bx]? = some (.cells #[.int .i64 (i : Int), .int .i64 (j : Int)] 40 (0, 0)) := by rw [← hw1, ← hbx]; simpa using heap_alloc_new w (.cells #[.int .i64 (i : Int), .int .i64 (j : Int)] 40)
  rw [hw1] at HB hI1
  have HI1 := Aside0.mk hI1
  have HI := Aside0.mk hI
  have HBX := Aside0.mk hbox
  have HW := Aside0.mk hw1
  have HX := Aside0.mk hbx
  obtain ⟨x0, x1⟩ := two hbox
  clear hI hI1 hbox hw1 hbx
  have hl1 : decide ((xs.length : Int) < 1) = false := decide_eq_false (by omega)
  have hl2 : decide ((xs.length : Int) > 2000) = false := decide_eq_false (by omega)
  have hl1n : decide (xs.length < 1) = false := decide_eq_false (by omega)
  have hl2n : decide (xs.length > 2000) = false := decide_eq_false (by omega)
  have hin : ((i : Nat) : Int) < (s.blocks.length : Int) := by omega
  have hjn : ((j : Nat) : Int) < (B.pages.length : Int) := by omega
  have HS := Aside0.mk hs
  have HBk := Aside0.mk hB
  have HLn := Aside0.mk hl
  have HJ := Aside0.mk hj
  have HIn := Aside0.mk hi
  clear hs hB hi hj hl
  go_enter Try.func13, Try.ntmps13
  go_wp2_with fail
  rw [HW.out, HX.out]
  have hcc := spot HI1.out (i : Int) (j : Int)
  rw [HS.out] at hcc
  refine hcc.mono ?_
  clear hcc
  rintro ev w2 ⟨rfl, hb⟩
  have HBX2 := Aside0.mk ((hb.block bx (blk_lt HBX.out)).trans HBX.out)
  have HK2 := Aside0.mk ((Kp.of_below HB.out ok).below hb)
  have hI2 := HI1.out.below hb
  obtain ⟨h, cap, cs, pg, r⟩ := hI2
  have HR2 := Aside0.mk r
  clear r hb x0 x1
  go_upto_region 3 with fail
  refine start_ (n := 8) (S := fun w' => (w'.cell? ⟨bx, 0, none⟩ = some (.int .i64 (i : Int)) ∧ w'.cell? ⟨bx, 1, none⟩ = some (.int .i64 (j : Int))) ∧ w'.cell? ⟨g, 0, none⟩ = some (.slice (some ⟨h, 0, none⟩) s.blocks.length cap) ∧ w'.cell? ⟨h, i * 4 + 1, none⟩ = some (.int .i64 B.next) ∧ w'.cell? ⟨h, i * 4 + 3, none⟩ = some (.slice (some ⟨pg i, 0, none⟩) B.pages.length B.pages.length) ∧ w'.cell? ⟨g, 8, none⟩ = some (.int .i64 s.keep)) (ds := []) #[false, false, false, false, false, false, false, false] (by kernel_rfl) rfl rfl (placeHeld HR2.out HBX2.out HBk.out rfl (below_drew (Below.refl _ _))) (fun hHeld => ?_)
  refine with_tabW reg_program_3.tab reg_program_3.bits (fun HT_ HW_ => ?_)
  refine pure_ (i := 0) (N := (some 24)) (v := ?_) (a' := ?_) #[true, false, false, false, false, false, false, false] rfl rfl (any_of HT_.out (by kernel_rfl)) (fun _ _ _ h => h) (Or.inl ⟨by rfl, ?_⟩) ?_ ?_
  rotate_left
  · intro w'
    go_simp
    first | done | with_reducible rfl
  rotate_left
  · simp only [Act.put, List.setIfInBounds_toArray, List.set_cons_zero, List.set_cons_succ, i64_w, i32_w]
    rfl
  refine pure_ (i := 1) (N := (some 25)) (v := ?_) (a' := ?_) #[true, true, false, false, false, false, false, false] rfl rfl (any_of HT_.out (by kernel_rfl)) (fun _ _ _ h => h) (Or.inl ⟨by rfl, ?_⟩) ?_ ?_
  rotate_left
  · intro w'
    go_simp
    first | done | with_reducible rfl
  rotate_left
  · simp only [Act.put, List.setIfInBounds_toArray, List.set_cons_zero, List.set_cons_succ, i64_w, i32_w]
    rfl
  refine pure_ (i := 2) (N := (some 26)) (v := ?_) (a' := ?_) #[true, true, true, false, false, false, false, false] rfl rfl (any_of HT_.out (by kernel_rfl)) (fun _ _ _ h => h) (Or.inl ⟨by rfl, ?_⟩) ?_ ?_
  rotate_left
  · intro w'
    go_simp
    first | done | with_reducible rfl
  rotate_left
  · simp only [Act.put, List.setIfInBounds_toArray, List.set_cons_zero, List.set_cons_succ, i64_w, i32_w]
    rfl
  refine take_ (i := 3) (N := (some 27)) (v := ?_) (a' := ?_) #[true, true, true, true, false, false, false, false] rfl rfl (take_ofW HT_.out HW_.out (by kernel_rfl)) (fun _ _ _ h => h) (Or.inl ⟨by rfl, ?_⟩) hHeld ?_ ?_
  rotate_left
  · rintro w' ⟨⟨s0, s1⟩, s2, s3, s4, s5⟩
    go_simp
    first | done | with_reducible rfl
  rotate_left
  · simp only [Act.put, List.setIfInBounds_toArray, List.set_cons_zero, List.set_cons_succ, i64_w, i32_w]
    rfl
  refine pure_ (i := 4) (N := (some 28)) (v := ?_) (a' := ?_) #[true, true, true, true, true, false, false, false] rfl rfl (any_of HT_.out (by kernel_rfl)) (fun _ _ _ h => h) (Or.inl ⟨by rfl, ?_⟩) ?_ ?_
  rotate_left
  · intro w'
    go_simp
    first | done | with_reducible rfl
  rotate_left
  · simp only [Act.put, List.setIfInBounds_toArray, List.set_cons_zero, List.set_cons_succ, i64_w, i32_w]
    rfl
  refine take_ (i := 5) (N := (some 29)) (v := ?_) (a' := ?_) #[true, true, true, true, true, true, false, false] rfl rfl (take_ofW HT_.out HW_.out (by kernel_rfl)) (fun _ _ _ h => h) (Or.inl ⟨by rfl, ?_⟩) hHeld ?_ ?_
  rotate_left
  · rintro w' ⟨⟨s0, s1⟩, s2, s3, s4, s5⟩
    go_simp
    first | done | with_reducible rfl
  rotate_left
  · simp only [Act.put, List.setIfInBounds_toArray, List.set_cons_zero, List.set_cons_succ, i64_w, i32_w]
    rfl
  refine take_ (i := 6) (N := (some 30)) (v := ?_) (a' := ?_) #[true, true, true, true, true, true, true, false] rfl rfl (take_ofW HT_.out HW_.out (by kernel_rfl)) (fun _ _ _ h => h) (Or.inl ⟨by rfl, ?_⟩) hHeld ?_ ?_
  rotate_left
  · rintro w' ⟨⟨s0, s1⟩, s2, s3, s4, s5⟩
    go_simp
    first | done | with_reducible rfl
  rotate_left
  · simp only [Act.put, List.setIfInBounds_toArray, List.set_cons_zero, List.set_cons_succ, i64_w, i32_w]
    rfl
  refine pure_ (i := 7) (N := (some 7)) (v := ?_) (a' := ?_) #[true, true, true, true, true, true, true, true] rfl rfl (any_of HT_.out (by kernel_rfl)) (fun _ _ _ h => h) (Or.inl ⟨by rfl, ?_⟩) ?_ ?_
  rotate_left
  · intro w'
    go_simp
    first | done | with_reducible rfl
  rotate_left
  · simp only [Act.put, List.setIfInBounds_toArray, List.set_cons_zero, List.set_cons_succ, i64_w, i32_w]
    rfl
  refine done_ (done_of HT_.out (by kernel_rfl)) ?_
  obtain ⟨w3, hw3⟩ : ∃ w3, w2.drew = w3 := ⟨_, rfl⟩
  have hb3 : Below w2.heap.size w2 w3 := by rw [← hw3]; exact below_drew (Below.refl _ _)
  have HR3 := Aside0.mk (HR2.out.below hb3)
  have HK3 := Aside0.mk (HK2.out.below hb3)
  have HBX3 := Aside0.mk ((hb3.block bx (blk_lt HBX2.out)).trans HBX2.out)
  rw [hw3]
  clear hw3 hb3 HR2 HK2 HBX2 hHeld HT_ HW_
  obtain ⟨-, ⟨-, -, -, -, c9⟩, -⟩ := ten HR3.out
  obtain ⟨d0, d1, d2, d3⟩ := rowCells HR3.out HBk.out
  have hne : (((j : Nat) : Int) != B.next) = true := by simpa using hn
  clear hn
  rw [hd] at c9
  rw [hbad] at d0
  clear hd hbad
  go_upto_region 8 with fail
  refine start_ (n := 8) (S := fun w' => (w'.cell? ⟨bx, 0, none⟩ = some (.int .i64 (i : Int)) ∧ w'.cell? ⟨bx, 1, none⟩ = some (.int .i64 (j : Int))) ∧ w'.cell? ⟨g, 0, none⟩ = some (.slice (some ⟨h, 0, none⟩) s.blocks.length cap) ∧ w'.cell? ⟨h, i * 4 + 1, none⟩ = some (.int .i64 B.next) ∧ w'.cell? ⟨h, i * 4 + 3, none⟩ = some (.slice (some ⟨pg i, 0, none⟩) B.pages.length B.pages.length) ∧ w'.cell? ⟨g, 8, none⟩ = some (.int .i64 s.keep)) (ds := []) #[false, false, false, false, false, false, false, false] (by kernel_rfl) rfl rfl (placeHeld HR3.out HBX3.out HBk.out rfl (below_drew (Below.refl _ _))) (fun hHeld => ?_)
  refine with_tabW reg_program_8.tab reg_program_8.bits (fun HT_ HW_ => ?_)
  refine pure_ (i := 0) (N := (some 42)) (v := ?_) (a' := ?_) #[true, false, false, false, false, false, false, false] rfl rfl (any_of HT_.out (by kernel_rfl)) (fun _ _ _ h => h) (Or.inl ⟨by rfl, ?_⟩) ?_ ?_
  rotate_left
  · intro w'
    go_simp
    first | done | with_reducible rfl
  rotate_left
  · simp only [Act.put, List.setIfInBounds_toArray, List.set_cons_zero, List.set_cons_succ, i64_w, i32_w]
    rfl
  refine take_ (i := 1) (N := (some 43)) (v := ?_) (a' := ?_) #[true, true, false, false, false, false, false, false] rfl rfl (take_ofW HT_.out HW_.out (by kernel_rfl)) (fun _ _ _ h => h) (Or.inl ⟨by rfl, ?_⟩) hHeld ?_ ?_
  rotate_left
  · rintro w' ⟨⟨s0, s1⟩, s2, s3, s4, s5⟩
    go_simp
    first | done | with_reducible rfl
  rotate_left
  · simp only [Act.put, List.setIfInBounds_toArray, List.set_cons_zero, List.set_cons_succ, i64_w, i32_w]
    rfl
  refine pure_ (i := 2) (N := (some 44)) (v := ?_) (a' := ?_) #[true, true, true, false, false, false, false, false] rfl rfl (any_of HT_.out (by kernel_rfl)) (fun _ _ _ h => h) (Or.inl ⟨by rfl, ?_⟩) ?_ ?_
  rotate_left
  · intro w'
    go_simp
    first | done | with_reducible rfl
  rotate_left
  · simp only [Act.put, List.setIfInBounds_toArray, List.set_cons_zero, List.set_cons_succ, i64_w, i32_w]
    rfl
  refine pure_ (i := 3) (N := (some 45)) (v := ?_) (a' := ?_) #[true, true, true, true, false, false, false, false] rfl rfl (any_of HT_.out (by kernel_rfl)) (fun _ _ _ h => h) (Or.inl ⟨by rfl, ?_⟩) ?_ ?_
  rotate_left
  · intro w'
    go_simp
    first | done | with_reducible rfl
  rotate_left
  · simp only [Act.put, List.setIfInBounds_toArray, List.set_cons_zero, List.set_cons_succ, i64_w, i32_w]
    rfl
  refine pure_ (i := 4) (N := (some 46)) (v := ?_) (a' := ?_) #[true, true, true, true, true, false, false, false] rfl rfl (any_of HT_.out (by kernel_rfl)) (fun _ _ _ h => h) (Or.inl ⟨by rfl, ?_⟩) ?_ ?_
  rotate_left
  · intro w'
    go_simp
    first | done | with_reducible rfl
  rotate_left
  · simp only [Act.put, List.setIfInBounds_toArray, List.set_cons_zero, List.set_cons_succ, i64_w, i32_w]
    rfl
  refine take_ (i := 5) (N := (some 47)) (v := ?_) (a' := ?_) #[true, true, true, true, true, true, false, false] rfl rfl (take_ofW HT_.out HW_.out (by kernel_rfl)) (fun _ _ _ h => h) (Or.inl ⟨by rfl, ?_⟩) hHeld ?_ ?_
  rotate_left
  · rintro w' ⟨⟨s0, s1⟩, s2, s3, s4, s5⟩
    go_simp
    first | done | with_reducible rfl
  rotate_left
  · simp only [Act.put, List.setIfInBounds_toArray, List.set_cons_zero, List.set_cons_succ, i64_w, i32_w]
    rfl
  refine pure_ (i := 6) (N := (some 48)) (v := ?_) (a' := ?_) #[true, true, true, true, true, true, true, false] rfl rfl (any_of HT_.out (by kernel_rfl)) (fun _ _ _ h => h) (Or.inl ⟨by rfl, ?_⟩) ?_ ?_
  rotate_left
  · intro w'
    go_simp
    first | done | with_reducible rfl
  rotate_left
  · simp only [Act.put, List.setIfInBounds_toArray, List.set_cons_zero, List.set_cons_succ, i64_w, i32_w]
    rfl
  refine pure_ (i := 7) (N := (some 41)) (v := ?_) (a' := ?_) #[true, true, true, true, true, true, true, true] rfl rfl (any_of HT_.out (by kernel_rfl)) (fun _ _ _ h => h) (Or.inl ⟨by rfl, ?_⟩) ?_ ?_
  rotate_left
  · intro w'
    go_simp
    first | done | with_reducible rfl
  rotate_left
  · simp only [Act.put, List.setIfInBounds_toArray, List.set_cons_zero, List.set_cons_succ, i64_w, i32_w]
    rfl
  refine done_ (done_of HT_.out (by kernel_rfl)) ?_
  obtain ⟨w4, hw4⟩ : ∃ w4, w3.drew = w4 := ⟨_, rfl⟩
  have hb4 : Below w3.heap.size w3 w4 := by rw [← hw4]; exact below_drew (Below.refl _ _)
  have HR4 := Aside0.mk (HR3.out.below hb4)
  have HK4 := Aside0.mk (HK3.out.below hb4)
  have HBX4 := Aside0.mk ((hb4.block bx (blk_lt HBX3.out)).trans HBX3.out)
  rw [hw4]
  clear hw4 hb4 HR3 HK3 HBX3 hHeld HT_ HW_ c9 d0 d1 d2 d3
  go_wp2_with fail
  go_ret
  exact ⟨rfl, ⟨_, _, _, _, HR4.out⟩, HK4.out⟩
def bp1 (s : Chp) : Chp := { s with bp := wrap64 (s.bp + 1) }
/-- A program that is tried. -/
def goS (s : Chp) (i j : Nat) (xs : List Int) : Chp × Int :=
  if s.cut = 0 then ({ (bump s i).mod i (pageB j (xs.take s.keep.toNat)) with down := true }, 2)
  else if s.fail = 0 then (((bump s i).mod i (pageB j (xs.take (xs.length / 2)))).mod i badB, 3)
  else ((bump s i).mod i (pageB j xs), 0)
theorem goS_cut {s : Chp} {i j : Nat} {xs : List Int} (h : s.cut = 0) : goS s i j xs = ({ (bump s i).mod i (pageB j (xs.take s.keep.toNat)) with down := true }, 2) := by unfold goS; rw [if_pos h]
theorem goS_fail {s : Chp} {i j : Nat} {xs : List Int} (h : s.cut ≠ 0) (h2 : s.fail = 0) : goS s i j xs = (((bump s i).mod i (pageB j (xs.take (xs.length / 2)))).mod i badB, 3) := by unfold goS; rw [if_neg h, if_pos h2]
theorem goS_ok {s : Chp} {i j : Nat} {xs : List Int} (h : s.cut ≠ 0) (h2 : s.fail ≠ 0) : goS s i j xs = ((bump s i).mod i (pageB j xs), 0) := by unfold goS; rw [if_neg h, if_neg h2]
theorem pageHeld {w w' : World} {base : Nat} {ok : Nat → Prop} {g h cap bx n : Nat} {cs : Array Value} {pg : Nat → Nat} {s : Chp} {kp : Int} {i j : Nat} (r : Rep w base ok g h cap cs pg s) (hbx : w.heap[bx]? = some (.cells #[.int .i64 (i : Int), .int .i64 (j : Int)] 40 (0, 0)))
    (hB : ∃ B, s.blocks[i]? = some B ∧ B.pages.length = n) (hk : s.keep = kp) (hb : Below w.heap.size w w') :
    (w'.cell? ⟨bx, 0, none⟩ = some (.int .i64 (i : Int)) ∧ w'.cell? ⟨bx, 1, none⟩ = some (.int .i64 (j : Int))) ∧ w'.cell? ⟨h, i * 4 + 3, none⟩ = some (.slice (some ⟨pg i, 0, none⟩) n n) ∧ w'.cell? ⟨g, 8, none⟩ = some (.int .i64 kp) := by
  obtain ⟨B, hB, rfl⟩ := hB
  obtain rfl := hk
  exact ⟨⟨pw_cell_below hb (two hbx).1, pw_cell_below hb (two hbx).2⟩, pw_cell_below hb (rowCells r hB).2.2.2, pw_cell_below hb (ten r).2.1.2.2.2.1⟩
theorem modB {s : Chp} {i n : Nat} (f : Blk → Blk) (hf : ∀ b, (f b).pages.length = b.pages.length) (hB : ∃ B, s.blocks[i]? = some B ∧ B.pages.length = n) : ∃ B, (s.mod i f).blocks[i]? = some B ∧ B.pages.length = n := by
  obtain ⟨B, hB, rfl⟩ := hB
  exact ⟨f B, by rw [mod_get, if_pos rfl, hB]; rfl, hf B⟩
theorem bumpB {s : Chp} {i : Nat} {B : Blk} (hB : s.blocks[i]? = some B) : ∃ B', (bump s i).blocks[i]? = some B' ∧ B'.pages.length = B.pages.length := by
  obtain ⟨B', h1, h2⟩ := modB nextB (fun _ => rfl) ⟨B, hB, rfl⟩
  exact ⟨B', h1, h2⟩
theorem pageCellB {W : World} {base : Nat} {ok : Nat → Prop} {g h cap : Nat} {cs : Array Value} {pg : Nat → Nat} {s : Chp} (r : Rep W base ok g h cap cs pg s) {i j : Nat} (hi : i < s.blocks.length) (hj : j < (s.blocks[i]).pages.length) :
    (∃ v, W.cell? ⟨pg i, j, none⟩ = some v) ∧ W.frozen? ⟨pg i, j, none⟩ = false := by
  obtain ⟨ps, h1, h2⟩ := r.pgs i _ (List.getElem?_eq_getElem hi)
  obtain ⟨v, h3, _⟩ := h2 j _ (List.getElem?_eq_getElem hj)
  exact ⟨⟨v, (blk_cell h1 _).trans h3⟩, blk_frozen h1 _⟩
theorem C_kp {ok : Nat → Prop} {w w1 : World} {A : Option Addr} {n : Nat} {xs : List Int} (h : Kp ok w w1) (hC : Kd.C (Kd.int .u8) w A n xs) (hd : ∀ ad, A = some ad → ¬ ok ad.block) : Kd.C (Kd.int .u8) w1 A n xs := by
  obtain ⟨h1, h2, h3⟩ := hC
  refine ⟨h1, h2, fun hn => ?_⟩
  obtain ⟨ad, he, h4⟩ := h3 hn
  refine ⟨ad, he, fun j p hp => ?_⟩
  obtain ⟨c, q1, q2, q3⟩ := h4 j p hp
  exact ⟨c, q1, q2, fun i u hu => h.cell (q3 i u hu) (by rw [add_block]; exact hd ad he)⟩
theorem R_shape {W : World} {base : Nat} {ok : Nat → Prop} {v : Value} {xs : List Int} (h : Kd.R (Kd.int .u8) 5 W base ok v xs) : ∃ A n c, v = .slice A n c := by
  obtain ⟨A, c, rfl, -, -⟩ := Kd.R_reads h
  exact ⟨_, _, _, rfl⟩
theorem cell0 {W : World} {base : Nat} {ok : Nat → Prop} {g h cap n : Nat} {cs : Array Value} {pg : Nat → Nat} {s : Chp} (r : Rep W base ok g h cap cs pg s) {i : Nat} (hB : ∃ B, s.blocks[i]? = some B ∧ B.pages.length = n) : ∃ b : Bool, W.cell? ⟨h, i * 4, none⟩ = some (.bool b) := by
  obtain ⟨B, hB, -⟩ := hB
  exact ⟨_, (rowCells r hB).1⟩
theorem bump_page {s : Chp} {i j : Nat} {B : Blk} (hB : s.blocks[i]? = some B) (hj : j < B.pages.length) : ∃ hi : i < (bump s i).blocks.length, j < ((bump s i).blocks[i]).pages.length := by
  have hB' : (bump s i).blocks[i]? = some (nextB B) := by
    show (s.mod i nextB).blocks[i]? = _
    rw [mod_get, if_pos rfl, hB]
    rfl
  obtain ⟨hi, he⟩ := List.getElem?_eq_some_iff.1 hB'
  exact ⟨hi, by rw [he]; exact hj⟩
def reg_program_12.T : Bool × List (List Nat × List Nat) := (true, [([], []), ([0], [0]), ([1], [1]), ([2], [2]), ([], []), ([4], [4]), ([5], [5]), ([6, 3], [6]), ([3, 7, 0, 1, 2, 3], [3]), ([7, 8, 0, 1, 2, 3, 4, 5, 6, 7, 8], [7])])
def reg_program_12.B : List Nat := [0, 1, 3, 7, 0, 16, 48, 127, 255, 511]
theorem reg_program_12.tab : rtab .any (opsOf Try.f13 12) = reg_program_12.T := by kernel_rfl
theorem reg_program_12.bits : waitsOk reg_program_12.T.2 reg_program_12.B = true := by kernel_rfl
def reg_program_14.T : Bool × List (List Nat × List Nat) := (true, [([], []), ([0], [0]), ([1], [1]), ([2], [2]), ([], []), ([4], [4]), ([], []), ([], []), ([], []), ([8], [8]), ([9], [9]), ([10], [10]), ([7, 11], [7, 11]), ([3, 5, 0, 1, 2, 3, 4, 5, 7, 8, 9, 10, 11, 12], [3, 5]), ([13, 12, 12, 0, 1, 2, 3, 4, 5, 7, 8, 9, 10, 11, 12], [12, 13]), ([6, 0, 1, 2, 3, 4, 5, 6, 7, 8, 9, 10, 11, 12, 13, 14], [6]), ([15, 0, 1, 2, 3, 4, 5, 6, 7, 8, 9, 10, 11, 12, 13, 14], [15]), ([16, 14, 0, 1, 2, 3, 4, 5, 6, 7, 8, 9, 10, 11, 12, 13, 14], [16])])
def reg_program_14.B : List Nat := [0, 1, 3, 7, 0, 16, 0, 0, 0, 256, 768, 1792, 3968, 8127, 16319, 32767, 65535, 131071]
theorem reg_program_14.tab : rtab .any (opsOf Try.f13 14) = reg_program_14.T := by kernel_rfl
theorem reg_program_14.bits : waitsOk reg_program_14.T.2 reg_program_14.B = true := by kernel_rfl
def reg_program_17.T : Bool × List (List Nat × List Nat) := (true, [([], []), ([0], [0]), ([1], [1]), ([2], [2]), ([], []), ([4], [4]), ([], []), ([], []), ([], []), ([8], [8]), ([9], [9]), ([7, 10], [7, 10]), ([3, 5, 0, 1, 2, 3, 4, 5, 7, 8, 9, 10, 11], [3, 5]), ([12, 11, 11, 0, 1, 2, 3, 4, 5, 7, 8, 9, 10, 11], [11, 12]), ([6, 0, 1, 2, 3, 4, 5, 6, 7, 8, 9, 10, 11, 12, 13], [6]), ([14, 0, 1, 2, 3, 4, 5, 6, 7, 8, 9, 10, 11, 12, 13], [14]), ([15, 13, 0, 1, 2, 3, 4, 5, 6, 7, 8, 9, 10, 11, 12, 13], [15])])
def reg_program_17.B : List Nat := [0, 1, 3, 7, 0, 16, 0, 0, 0, 256, 768, 1920, 4031, 8127, 16383, 32767, 65535]
theorem reg_program_17.tab : rtab .any (opsOf Try.f13 17) = reg_program_17.T := by kernel_rfl
theorem reg_program_17.bits : waitsOk reg_program_17.T.2 reg_program_17.B = true := by kernel_rfl
def reg_program_19.T : Bool × List (List Nat × List Nat) := (true, [([], []), ([0], [0]), ([1], [1]), ([2], [2]), ([], []), ([4], [4]), ([], []), ([], []), ([7], [7]), ([6, 8], [6, 8]), ([3, 5, 0, 1, 2, 3, 4, 5, 6, 7, 8, 9], [3, 5]), ([10, 9, 9, 0, 1, 2, 3, 4, 5, 6, 7, 8, 9], [9, 10])])
def reg_program_19.B : List Nat := [0, 1, 3, 7, 0, 16, 0, 0, 128, 448, 1023, 2047]
theorem reg_program_19.tab : rtab .any (opsOf Try.f13 19) = reg_program_19.T := by kernel_rfl
theorem reg_program_19.bits : waitsOk reg_program_19.T.2 reg_program_19.B = true := by kernel_rfl
set_option maxHeartbeats 8000000 in
set_option maxRecDepth 100000 in
theorem prog_go {w : World} {base : Nat} {ok : Nat → Prop} {g : Nat} {s : Chp} (hI : IsChip w base ok g s) (i j : Nat) (B : Blk) (A : Option Addr) (c : Nat) (xs : List Int) (hs : spotB s (i : Int) (j : Int) = true) (hB : s.blocks[i]? = some B) (hi : i < s.blocks.length) (hj : j < B.pages.length) (hl : 1 ≤ xs.length ∧ xs.length ≤ 2000) (hd : s.down = false) (hbad : B.bad = false) (hn : ((j : Nat) : Int) = B.next) (hRA : Kd.C (Kd.int .u8) w A xs.length xs) (hcl : xs.length ≤ c) (hdj : ∀ ad, A = some ad → ¬ ok ad.block) (hF : Fr ok w) :
    Calls Try.prog 13 #[.pointer (some ⟨g, 0, none⟩), .agg #[.int .i64 (i : Int), .int .i64 (j : Int)], .slice A xs.length c] w fun e w' => e = .returned (.int .i64 (goS s i j xs).2) ∧ Now w base ok g (goS s i j xs).1 w' := by
  have HN := Aside0.mk hn
  have HRA := Aside0.mk hRA
  have HDJ := Aside0.mk hdj
  have HFr := Aside0.mk hF
  have HCL := Aside0.mk hcl
  clear hn hRA hdj hF hcl
  have HB := Aside0.mk (below_alloc (Below.refl _ w) (.cells #[.int .i64 (i : Int), .int .i64 (j : Int)] 40))
  have hI1 := hI.below HB.out
  obtain ⟨w1, hw1⟩ : ∃ w1, w.alloc (.cells #[.int .i64 (i : Int), .int .i64 (j : Int)] 40) = w1 := ⟨_, rfl⟩
  obtain ⟨bx, hbx⟩ : ∃ bx, w.heap.size = bx := ⟨_, rfl⟩
  have hbox : w1.heap[bx]? = some (.cells #[.int .i64 (i : Int), .int .i64 (j : Int)] 40 (0, 0)) := by rw [← hw1, ← hbx]; simpa using heap_alloc_new w (.cells #[.int .i64 (i : Int), .int .i64 (j : Int)] 40)
  rw [hw1] at HB hI1
  have HI1 := Aside0.mk hI1
  have HI := Aside0.mk hI
  have HBX := Aside0.mk hbox
  have HW := Aside0.mk hw1
  have HX := Aside0.mk hbx
  obtain ⟨x0, x1⟩ := two hbox
  clear hI hI1 hbox hw1 hbx
  have hl1 : decide ((xs.length : Int) < 1) = false := decide_eq_false (by omega)
  have hl2 : decide ((xs.length : Int) > 2000) = false := decide_eq_false (by omega)
  have hl1n : decide (xs.length < 1) = false := decide_eq_false (by omega)
  have hl2n : decide (xs.length > 2000) = false := decide_eq_false (by omega)
  have hin : ((i : Nat) : Int) < (s.blocks.length : Int) := by omega
  have hjn : ((j : Nat) : Int) < (B.pages.length : Int) := by omega
  have HS := Aside0.mk hs
  have HBk := Aside0.mk hB
  have HLn := Aside0.mk hl
  have HJ := Aside0.mk hj
  have HIn := Aside0.mk hi
  clear hs hB hi hj hl
  go_enter Try.func13, Try.ntmps13
  go_wp2_with fail
  rw [HW.out, HX.out]
  have hcc := spot HI1.out (i : Int) (j : Int)
  rw [HS.out] at hcc
  refine hcc.mono ?_
  clear hcc
  rintro ev w2 ⟨rfl, hb⟩
  have HBX2 := Aside0.mk ((hb.block bx (blk_lt HBX.out)).trans HBX.out)
  have HK2 := Aside0.mk ((Kp.of_below HB.out ok).below hb)
  have hI2 := HI1.out.below hb
  obtain ⟨h, cap, cs, pg, r⟩ := hI2
  have HR2 := Aside0.mk r
  clear r hb x0 x1
  go_upto_region 3 with fail
  refine start_ (n := 8) (S := fun w' => (w'.cell? ⟨bx, 0, none⟩ = some (.int .i64 (i : Int)) ∧ w'.cell? ⟨bx, 1, none⟩ = some (.int .i64 (j : Int))) ∧ w'.cell? ⟨g, 0, none⟩ = some (.slice (some ⟨h, 0, none⟩) s.blocks.length cap) ∧ w'.cell? ⟨h, i * 4 + 1, none⟩ = some (.int .i64 B.next) ∧ w'.cell? ⟨h, i * 4 + 3, none⟩ = some (.slice (some ⟨pg i, 0, none⟩) B.pages.length B.pages.length) ∧ w'.cell? ⟨g, 8, none⟩ = some (.int .i64 s.keep)) (ds := []) #[false, false, false, false, false, false, false, false] (by kernel_rfl) rfl rfl (placeHeld HR2.out HBX2.out HBk.out rfl (below_drew (Below.refl _ _))) (fun hHeld => ?_)
  refine with_tabW reg_program_3.tab reg_program_3.bits (fun HT_ HW_ => ?_)
  refine pure_ (i := 0) (N := (some 24)) (v := ?_) (a' := ?_) #[true, false, false, false, false, false, false, false] rfl rfl (any_of HT_.out (by kernel_rfl)) (fun _ _ _ h => h) (Or.inl ⟨by rfl, ?_⟩) ?_ ?_
  rotate_left
  · intro w'
    go_simp
    first | done | with_reducible rfl
  rotate_left
  · simp only [Act.put, List.setIfInBounds_toArray, List.set_cons_zero, List.set_cons_succ, i64_w, i32_w]
    rfl
  refine pure_ (i := 1) (N := (some 25)) (v := ?_) (a' := ?_) #[true, true, false, false, false, false, false, false] rfl rfl (any_of HT_.out (by kernel_rfl)) (fun _ _ _ h => h) (Or.inl ⟨by rfl, ?_⟩) ?_ ?_
  rotate_left
  · intro w'
    go_simp
    first | done | with_reducible rfl
  rotate_left
  · simp only [Act.put, List.setIfInBounds_toArray, List.set_cons_zero, List.set_cons_succ, i64_w, i32_w]
    rfl
  refine pure_ (i := 2) (N := (some 26)) (v := ?_) (a' := ?_) #[true, true, true, false, false, false, false, false] rfl rfl (any_of HT_.out (by kernel_rfl)) (fun _ _ _ h => h) (Or.inl ⟨by rfl, ?_⟩) ?_ ?_
  rotate_left
  · intro w'
    go_simp
    first | done | with_reducible rfl
  rotate_left
  · simp only [Act.put, List.setIfInBounds_toArray, List.set_cons_zero, List.set_cons_succ, i64_w, i32_w]
    rfl
  refine take_ (i := 3) (N := (some 27)) (v := ?_) (a' := ?_) #[true, true, true, true, false, false, false, false] rfl rfl (take_ofW HT_.out HW_.out (by kernel_rfl)) (fun _ _ _ h => h) (Or.inl ⟨by rfl, ?_⟩) hHeld ?_ ?_
  rotate_left
  · rintro w' ⟨⟨s0, s1⟩, s2, s3, s4, s5⟩
    go_simp
    first | done | with_reducible rfl
  rotate_left
  · simp only [Act.put, List.setIfInBounds_toArray, List.set_cons_zero, List.set_cons_succ, i64_w, i32_w]
    rfl
  refine pure_ (i := 4) (N := (some 28)) (v := ?_) (a' := ?_) #[true, true, true, true, true, false, false, false] rfl rfl (any_of HT_.out (by kernel_rfl)) (fun _ _ _ h => h) (Or.inl ⟨by rfl, ?_⟩) ?_ ?_
  rotate_left
  · intro w'
    go_simp
    first | done | with_reducible rfl
  rotate_left
  · simp only [Act.put, List.setIfInBounds_toArray, List.set_cons_zero, List.set_cons_succ, i64_w, i32_w]
    rfl
  refine take_ (i := 5) (N := (some 29)) (v := ?_) (a' := ?_) #[true, true, true, true, true, true, false, false] rfl rfl (take_ofW HT_.out HW_.out (by kernel_rfl)) (fun _ _ _ h => h) (Or.inl ⟨by rfl, ?_⟩) hHeld ?_ ?_
  rotate_left
  · rintro w' ⟨⟨s0, s1⟩, s2, s3, s4, s5⟩
    go_simp
    first | done | with_reducible rfl
  rotate_left
  · simp only [Act.put, List.setIfInBounds_toArray, List.set_cons_zero, List.set_cons_succ, i64_w, i32_w]
    rfl
  refine take_ (i := 6) (N := (some 30)) (v := ?_) (a' := ?_) #[true, true, true, true, true, true, true, false] rfl rfl (take_ofW HT_.out HW_.out (by kernel_rfl)) (fun _ _ _ h => h) (Or.inl ⟨by rfl, ?_⟩) hHeld ?_ ?_
  rotate_left
  · rintro w' ⟨⟨s0, s1⟩, s2, s3, s4, s5⟩
    go_simp
    first | done | with_reducible rfl
  rotate_left
  · simp only [Act.put, List.setIfInBounds_toArray, List.set_cons_zero, List.set_cons_succ, i64_w, i32_w]
    rfl
  refine pure_ (i := 7) (N := (some 7)) (v := ?_) (a' := ?_) #[true, true, true, true, true, true, true, true] rfl rfl (any_of HT_.out (by kernel_rfl)) (fun _ _ _ h => h) (Or.inl ⟨by rfl, ?_⟩) ?_ ?_
  rotate_left
  · intro w'
    go_simp
    first | done | with_reducible rfl
  rotate_left
  · simp only [Act.put, List.setIfInBounds_toArray, List.set_cons_zero, List.set_cons_succ, i64_w, i32_w]
    rfl
  refine done_ (done_of HT_.out (by kernel_rfl)) ?_
  obtain ⟨w3, hw3⟩ : ∃ w3, w2.drew = w3 := ⟨_, rfl⟩
  have hb3 : Below w2.heap.size w2 w3 := by rw [← hw3]; exact below_drew (Below.refl _ _)
  have HR3 := Aside0.mk (HR2.out.below hb3)
  have HK3 := Aside0.mk (HK2.out.below hb3)
  have HBX3 := Aside0.mk ((hb3.block bx (blk_lt HBX2.out)).trans HBX2.out)
  rw [hw3]
  clear hw3 hb3 HR2 HK2 HBX2 hHeld HT_ HW_
  obtain ⟨-, ⟨-, -, -, -, c9⟩, -⟩ := ten HR3.out
  obtain ⟨d0, d1, d2, d3⟩ := rowCells HR3.out HBk.out
  rw [hd] at c9
  rw [hbad] at d0
  clear hd hbad
  go_upto_region 8 with fail
  refine start_ (n := 8) (S := fun w' => (w'.cell? ⟨bx, 0, none⟩ = some (.int .i64 (i : Int)) ∧ w'.cell? ⟨bx, 1, none⟩ = some (.int .i64 (j : Int))) ∧ w'.cell? ⟨g, 0, none⟩ = some (.slice (some ⟨h, 0, none⟩) s.blocks.length cap) ∧ w'.cell? ⟨h, i * 4 + 1, none⟩ = some (.int .i64 (j : Int)) ∧ w'.cell? ⟨h, i * 4 + 3, none⟩ = some (.slice (some ⟨pg i, 0, none⟩) B.pages.length B.pages.length) ∧ w'.cell? ⟨g, 8, none⟩ = some (.int .i64 s.keep)) (ds := []) #[false, false, false, false, false, false, false, false] (by kernel_rfl) rfl rfl (placeHeld HR3.out HBX3.out HBk.out HN.out.symm (below_drew (Below.refl _ _))) (fun hHeld => ?_)
  refine with_tabW reg_program_8.tab reg_program_8.bits (fun HT_ HW_ => ?_)
  refine pure_ (i := 0) (N := (some 42)) (v := ?_) (a' := ?_) #[true, false, false, false, false, false, false, false] rfl rfl (any_of HT_.out (by kernel_rfl)) (fun _ _ _ h => h) (Or.inl ⟨by rfl, ?_⟩) ?_ ?_
  rotate_left
  · intro w'
    go_simp
    first | done | with_reducible rfl
  rotate_left
  · simp only [Act.put, List.setIfInBounds_toArray, List.set_cons_zero, List.set_cons_succ, i64_w, i32_w]
    rfl
  refine take_ (i := 1) (N := (some 43)) (v := ?_) (a' := ?_) #[true, true, false, false, false, false, false, false] rfl rfl (take_ofW HT_.out HW_.out (by kernel_rfl)) (fun _ _ _ h => h) (Or.inl ⟨by rfl, ?_⟩) hHeld ?_ ?_
  rotate_left
  · rintro w' ⟨⟨s0, s1⟩, s2, s3, s4, s5⟩
    go_simp
    first | done | with_reducible rfl
  rotate_left
  · simp only [Act.put, List.setIfInBounds_toArray, List.set_cons_zero, List.set_cons_succ, i64_w, i32_w]
    rfl
  refine pure_ (i := 2) (N := (some 44)) (v := ?_) (a' := ?_) #[true, true, true, false, false, false, false, false] rfl rfl (any_of HT_.out (by kernel_rfl)) (fun _ _ _ h => h) (Or.inl ⟨by rfl, ?_⟩) ?_ ?_
  rotate_left
  · intro w'
    go_simp
    first | done | with_reducible rfl
  rotate_left
  · simp only [Act.put, List.setIfInBounds_toArray, List.set_cons_zero, List.set_cons_succ, i64_w, i32_w]
    rfl
  refine pure_ (i := 3) (N := (some 45)) (v := ?_) (a' := ?_) #[true, true, true, true, false, false, false, false] rfl rfl (any_of HT_.out (by kernel_rfl)) (fun _ _ _ h => h) (Or.inl ⟨by rfl, ?_⟩) ?_ ?_
  rotate_left
  · intro w'
    go_simp
    first | done | with_reducible rfl
  rotate_left
  · simp only [Act.put, List.setIfInBounds_toArray, List.set_cons_zero, List.set_cons_succ, i64_w, i32_w]
    rfl
  refine pure_ (i := 4) (N := (some 46)) (v := ?_) (a' := ?_) #[true, true, true, true, true, false, false, false] rfl rfl (any_of HT_.out (by kernel_rfl)) (fun _ _ _ h => h) (Or.inl ⟨by rfl, ?_⟩) ?_ ?_
  rotate_left
  · intro w'
    go_simp
    first | done | with_reducible rfl
  rotate_left
  · simp only [Act.put, List.setIfInBounds_toArray, List.set_cons_zero, List.set_cons_succ, i64_w, i32_w]
    rfl
  refine take_ (i := 5) (N := (some 47)) (v := ?_) (a' := ?_) #[true, true, true, true, true, true, false, false] rfl rfl (take_ofW HT_.out HW_.out (by kernel_rfl)) (fun _ _ _ h => h) (Or.inl ⟨by rfl, ?_⟩) hHeld ?_ ?_
  rotate_left
  · rintro w' ⟨⟨s0, s1⟩, s2, s3, s4, s5⟩
    go_simp
    first | done | with_reducible rfl
  rotate_left
  · simp only [Act.put, List.setIfInBounds_toArray, List.set_cons_zero, List.set_cons_succ, i64_w, i32_w]
    rfl
  refine pure_ (i := 6) (N := (some 48)) (v := ?_) (a' := ?_) #[true, true, true, true, true, true, true, false] rfl rfl (any_of HT_.out (by kernel_rfl)) (fun _ _ _ h => h) (Or.inl ⟨by rfl, ?_⟩) ?_ ?_
  rotate_left
  · intro w'
    go_simp
    first | done | with_reducible rfl
  rotate_left
  · simp only [Act.put, List.setIfInBounds_toArray, List.set_cons_zero, List.set_cons_succ, i64_w, i32_w]
    rfl
  refine pure_ (i := 7) (N := (some 41)) (v := ?_) (a' := ?_) #[true, true, true, true, true, true, true, true] rfl rfl (any_of HT_.out (by kernel_rfl)) (fun _ _ _ h => h) (Or.inl ⟨by rfl, ?_⟩) ?_ ?_
  rotate_left
  · intro w'
    go_simp
    first | done | with_reducible rfl
  rotate_left
  · simp only [Act.put, List.setIfInBounds_toArray, List.set_cons_zero, List.set_cons_succ, i64_w, i32_w]
    rfl
  refine done_ (done_of HT_.out (by kernel_rfl)) ?_
  obtain ⟨w4, hw4⟩ : ∃ w4, w3.drew = w4 := ⟨_, rfl⟩
  have hb4 : Below w3.heap.size w3 w4 := by rw [← hw4]; exact below_drew (Below.refl _ _)
  have HR4 := Aside0.mk (HR3.out.below hb4)
  have HK4 := Aside0.mk (HK3.out.below hb4)
  have HBX4 := Aside0.mk ((hb4.block bx (blk_lt HBX3.out)).trans HBX3.out)
  rw [hw4]
  clear hw4 hb4 HR3 HK3 HBX3 hHeld HT_ HW_ c9 d0 d1 d2 d3
  obtain ⟨⟨-, -, -, e3, -⟩, -, fz⟩ := ten HR4.out
  have f3 := fz 3
  obtain ⟨-, d1, -, -⟩ := rowCells HR4.out HBk.out
  rw [← HN.out] at d1
  have fh : w4.frozen? ⟨h, i * 4 + 1, none⟩ = false := blk_frozen HR4.out.hh _
  have HGH := Aside0.mk HR4.out.gh
  have hgh := HR4.out.gh
  clear fz
  go_upto_region 12 with fail
  obtain ⟨w5, hw5⟩ : ∃ w5, ((w4.setCell ⟨g, 3, none⟩ (.int .i64 (wrap64 (s.bp + 1)))).setCell ⟨h, i * 4 + 1, none⟩ (.int .i64 (wrap64 ((j : Int) + 1)))) = w5 := ⟨_, rfl⟩
  have hR5 : ∃ cs5, Rep w5 base ok g h cap cs5 pg ((bp1 s).mod i nextB) := by
    rw [← hw5]
    refine ⟨_, (HR4.out.setG (s' := bp1 s) 3 _ (by simp [Chp.cells, bp1]) rfl { HR4.out.inv with }).setH i 1 HIn.out (by decide) nextB (fun _ => rfl) _ (fun b hb => by simp [nextB]) (fun b hb => ?_) (fun b hb => by simp [nextB])⟩
    have hb' : s.blocks[i]? = some b := hb
    rw [HBk.out] at hb'
    cases hb'
    simp [nextB, HN.out]
  have HK5 : Aside0 (Kp ok w w5) := ⟨by rw [← hw5]; exact (HK4.out.set (p := ⟨g, 3, none⟩) HR4.out.okg _).set (p := ⟨h, i * 4 + 1, none⟩) HR4.out.okh _⟩
  have hbx5 : w5.heap[bx]? = some (.cells #[.int .i64 (i : Int), .int .i64 (j : Int)] 40 (0, 0)) := by
    rw [← hw5]
    exact blk_far (blk_far HBX4.out (p := ⟨g, 3, none⟩) (type_ne HBX4.out HR4.out.hg (by decide)) _) (p := ⟨h, i * 4 + 1, none⟩) (type_ne HBX4.out HR4.out.hh (by decide)) _
  have HBX5 := Aside0.mk hbx5
  obtain ⟨cs5, hr5⟩ := hR5
  have HR5 := Aside0.mk hr5
  rw [hw5]
  clear hw5 hr5 hbx5 HR4 HK4 HBX4 e3 f3 d1 fh hgh HGH
  have hd5 : Below w5.heap.size w5 w5.drew := below_drew (Below.refl _ _)
  have HR6 := Aside0.mk (HR5.out.below hd5)
  have HK6 := Aside0.mk (HK5.out.below hd5)
  have HBX6 := Aside0.mk ((hd5.block bx (blk_lt HBX5.out)).trans HBX5.out)
  have HC7 : Aside0 (w5.drew.cell? ⟨g, 7, none⟩ = some (.int .i64 s.cut)) := ⟨(ten HR6.out).2.1.2.2.1⟩
  have HF7 : Aside0 (w5.drew.frozen? ⟨g, 7, none⟩ = false) := ⟨(ten HR6.out).2.2 7⟩
  clear hd5
  refine start_ (n := 10) (S := fun w' => True) (ds := []) #[false, false, false, false, false, false, false, false, false, false] (by kernel_rfl) rfl rfl trivial (fun hHeld => ?_)
  refine with_tabW reg_program_12.tab reg_program_12.bits (fun HT_ HW_ => ?_)
  refine pure_ (i := 0) (N := (some 65)) (v := ?_) (a' := ?_) #[true, false, false, false, false, false, false, false, false, false] rfl rfl (any_of HT_.out (by kernel_rfl)) (fun _ _ _ h => h) (Or.inl ⟨by rfl, ?_⟩) ?_ ?_
  rotate_left
  · intro w'
    go_simp
    first | done | with_reducible rfl
  rotate_left
  · simp only [Act.put, List.setIfInBounds_toArray, List.set_cons_zero, List.set_cons_succ, i64_w, i32_w]
    rfl
  refine pure_ (i := 1) (N := (some 66)) (v := ?_) (a' := ?_) #[true, true, false, false, false, false, false, false, false, false] rfl rfl (any_of HT_.out (by kernel_rfl)) (fun _ _ _ h => h) (Or.inl ⟨by rfl, ?_⟩) ?_ ?_
  rotate_left
  · intro w'
    go_simp
    first | done | with_reducible rfl
  rotate_left
  · simp only [Act.put, List.setIfInBounds_toArray, List.set_cons_zero, List.set_cons_succ, i64_w, i32_w]
    rfl
  refine pure_ (i := 2) (N := (some 67)) (v := ?_) (a' := ?_) #[true, true, true, false, false, false, false, false, false, false] rfl rfl (any_of HT_.out (by kernel_rfl)) (fun _ _ _ h => h) (Or.inl ⟨by rfl, ?_⟩) ?_ ?_
  rotate_left
  · intro w'
    go_simp
    first | done | with_reducible rfl
  rotate_left
  · simp only [Act.put, List.setIfInBounds_toArray, List.set_cons_zero, List.set_cons_succ, i64_w, i32_w]
    rfl
  refine pure_ (i := 4) (N := (some 69)) (v := ?_) (a' := ?_) #[true, true, true, false, true, false, false, false, false, false] rfl rfl (any_of HT_.out (by kernel_rfl)) (fun _ _ _ h => h) (Or.inl ⟨by rfl, ?_⟩) ?_ ?_
  rotate_left
  · intro w'
    go_simp
    first | done | with_reducible rfl
  rotate_left
  · simp only [Act.put, List.setIfInBounds_toArray, List.set_cons_zero, List.set_cons_succ, i64_w, i32_w]
    rfl
  refine pure_ (i := 5) (N := (some 70)) (v := ?_) (a' := ?_) #[true, true, true, false, true, true, false, false, false, false] rfl rfl (any_of HT_.out (by kernel_rfl)) (fun _ _ _ h => h) (Or.inl ⟨by rfl, ?_⟩) ?_ ?_
  rotate_left
  · intro w'
    go_simp
    first | done | with_reducible rfl
  rotate_left
  · simp only [Act.put, List.setIfInBounds_toArray, List.set_cons_zero, List.set_cons_succ, i64_w, i32_w]
    rfl
  refine pure_ (i := 6) (N := (some 71)) (v := ?_) (a' := ?_) #[true, true, true, false, true, true, true, false, false, false] rfl rfl (any_of HT_.out (by kernel_rfl)) (fun _ _ _ h => h) (Or.inl ⟨by rfl, ?_⟩) ?_ ?_
  rotate_left
  · intro w'
    go_simp
    first | done | with_reducible rfl
  rotate_left
  · simp only [Act.put, List.setIfInBounds_toArray, List.set_cons_zero, List.set_cons_succ, i64_w, i32_w]
    rfl
  refine one_ (i := 3) (N := (some 68)) #[true, true, true, true, true, true, true, false, false, false] rfl rfl (one_of HT_.out (by kernel_rfl)) (by decide) (fun K hK => ?_)
  refine goes_ Try.func29 (by kernel_rfl) rfl #[.pointer (some ⟨g, 7, none⟩)] (by rfl) rfl rfl (by (try simp only [List.map_toArray, List.map_cons, List.map_nil]); first | done | rfl) ?_
  with_reducible refine (comes HC7.out HF7.out).mono ?_
  rintro ev_ w7 ⟨rfl, rfl⟩
  refine ⟨_, rfl, ?_⟩
  obtain ⟨w7, hw7⟩ : ∃ w7, w5.drew.setCell ⟨g, 7, none⟩ (.int .i64 (dec s.cut)) = w7 := ⟨_, rfl⟩
  have HR7 : Aside0 (Rep w7 base ok g h cap cs5 pg { (bp1 s).mod i nextB with cut := dec s.cut }) := ⟨by rw [← hw7]; exact HR6.out.setG 7 _ (by simp [Chp.cells]) rfl { HR6.out.inv with c1 := (dec_range HR6.out.inv.c1 HR6.out.inv.c2).1, c2 := (dec_range HR6.out.inv.c1 HR6.out.inv.c2).2.1 }⟩
  have HK7 : Aside0 (Kp ok w w7) := ⟨by rw [← hw7]; exact HK6.out.set (p := ⟨g, 7, none⟩) HR6.out.okg _⟩
  have HBX7 : Aside0 (w7.heap[bx]? = some (.cells #[.int .i64 (i : Int), .int .i64 (j : Int)] 40 (0, 0))) := ⟨by rw [← hw7]; exact blk_far HBX6.out (p := ⟨g, 7, none⟩) (type_ne HBX6.out HR6.out.hg (by decide)) _⟩
  have HC5 : Aside0 (w7.cell? ⟨g, 5, none⟩ = some (.int .i64 s.fail)) := ⟨(ten HR7.out).2.1.1⟩
  have HF5 : Aside0 (w7.frozen? ⟨g, 5, none⟩ = false) := ⟨(ten HR7.out).2.2 5⟩
  rw [hw7]
  clear hw7
  refine hK.out _ _ trivial (fun hHeld => ?_)
  clear hK K
  refine norm_ (a' := ?_) ?_ ?_
  rotate_left
  · show Act.put _ (some 68) _ = _
    simp only [Act.put, List.setIfInBounds_toArray, List.set_cons_zero, List.set_cons_succ, i64_w, i32_w]
    rfl
  refine one_ (i := 7) (N := (some 72)) #[true, true, true, true, true, true, true, true, false, false] rfl rfl (one_of HT_.out (by kernel_rfl)) (by decide) (fun K hK => ?_)
  refine goes_ Try.func29 (by kernel_rfl) rfl #[.pointer (some ⟨g, 5, none⟩)] (by rfl) rfl rfl (by (try simp only [List.map_toArray, List.map_cons, List.map_nil]); first | done | rfl) ?_
  with_reducible refine (comes HC5.out HF5.out).mono ?_
  rintro ev_ w8 ⟨rfl, rfl⟩
  refine ⟨_, rfl, ?_⟩
  obtain ⟨w8, hw8⟩ : ∃ w8, w7.setCell ⟨g, 5, none⟩ (.int .i64 (dec s.fail)) = w8 := ⟨_, rfl⟩
  have HR8 : Aside0 (Rep w8 base ok g h cap cs5 pg (bump s i)) := ⟨by rw [← hw8]; exact HR7.out.setG 5 _ (by simp [Chp.cells, bump, bp1, Chp.mod]) rfl { HR7.out.inv with f1 := (dec_range HR7.out.inv.f1 HR7.out.inv.f2).1, f2 := (dec_range HR7.out.inv.f1 HR7.out.inv.f2).2.1 }⟩
  have HK8 : Aside0 (Kp ok w w8) := ⟨by rw [← hw8]; exact HK7.out.set (p := ⟨g, 5, none⟩) HR7.out.okg _⟩
  have HBX8 : Aside0 (w8.heap[bx]? = some (.cells #[.int .i64 (i : Int), .int .i64 (j : Int)] 40 (0, 0))) := ⟨by rw [← hw8]; exact blk_far HBX7.out (p := ⟨g, 5, none⟩) (type_ne HBX7.out HR7.out.hg (by decide)) _⟩
  rw [hw8]
  clear hw8
  refine hK.out _ _ trivial (fun hHeld => ?_)
  clear hK K
  refine norm_ (a' := ?_) ?_ ?_
  rotate_left
  · show Act.put _ (some 72) _ = _
    simp only [Act.put, List.setIfInBounds_toArray, List.set_cons_zero, List.set_cons_succ, i64_w, i32_w]
    rfl
  refine pure_ (i := 8) (N := (some 8)) (v := ?_) (a' := ?_) #[true, true, true, true, true, true, true, true, true, false] rfl rfl (any_of HT_.out (by kernel_rfl)) (fun _ _ _ h => h) (Or.inl ⟨by rfl, ?_⟩) ?_ ?_
  rotate_left
  · intro w'
    go_simp
    first | done | with_reducible rfl
  rotate_left
  · simp only [Act.put, List.setIfInBounds_toArray, List.set_cons_zero, List.set_cons_succ, i64_w, i32_w]
    rfl
  refine pure_ (i := 9) (N := (some 9)) (v := ?_) (a' := ?_) #[true, true, true, true, true, true, true, true, true, true] rfl rfl (any_of HT_.out (by kernel_rfl)) (fun _ _ _ h => h) (Or.inl ⟨by rfl, ?_⟩) ?_ ?_
  rotate_left
  · intro w'
    go_simp
    first | done | with_reducible rfl
  rotate_left
  · simp only [Act.put, List.setIfInBounds_toArray, List.set_cons_zero, List.set_cons_succ, i64_w, i32_w]
    rfl
  refine done_ (done_of HT_.out (by kernel_rfl)) ?_
  obtain ⟨bc, hbc⟩ : ∃ b, (s.cut == 0) = b := ⟨_, rfl⟩
  obtain ⟨bf, hbf⟩ : ∃ b, (s.fail == 0) = b := ⟨_, rfl⟩
  have HBC := Aside0.mk hbc
  have HBF := Aside0.mk hbf
  rw [hbc, hbf]
  clear hbc hbf hHeld HT_ HW_ HC7 HF7 HC5 HF5 HR5 HR6 HR7 HK5 HK6 HK7 HBX5 HBX6 HBX7
  have HC8 := Aside0.mk (Kd.C_drew (C_kp HK8.out HRA.out HDJ.out))
  have hF8 : Fr ok w8.drew := fun k hk => HFr.out k (Nat.le_trans HK8.out.bel.size hk)
  have HF8 := Aside0.mk hF8
  have HP8 : Aside0 (base ≤ w8.drew.heap.size) := ⟨Nat.le_of_lt (Nat.lt_of_le_of_lt (HR8.out.okb g HR8.out.okg) (blk_lt HR8.out.hg))⟩
  clear hF8
  have HK0 : Aside0 (0 ≤ s.keep) := ⟨HI.out.inv.k1⟩
  cases bc with
  | true =>
    have hc0 : s.cut = 0 := by simpa using HBC.out
    have HC0 := Aside0.mk hc0
    clear hc0
    go_upto_region 14 with fail
    refine start_ (n := 18) (S := fun w' => (w'.cell? ⟨bx, 0, none⟩ = some (.int .i64 (i : Int)) ∧ w'.cell? ⟨bx, 1, none⟩ = some (.int .i64 (j : Int))) ∧ w'.cell? ⟨h, i * 4 + 3, none⟩ = some (.slice (some ⟨pg i, 0, none⟩) B.pages.length B.pages.length) ∧ w'.cell? ⟨g, 8, none⟩ = some (.int .i64 s.keep)) (ds := []) #[false, false, false, false, false, false, false, false, false, false, false, false, false, false, false, false, false, false] (by kernel_rfl) rfl rfl (pageHeld HR8.out HBX8.out (bumpB HBk.out) rfl (below_drew (Below.refl _ _))) (fun hHeld => ?_)
    refine with_tabW reg_program_14.tab reg_program_14.bits (fun HT_ HW_ => ?_)
    refine pure_ (i := 0) (N := (some 75)) (v := ?_) (a' := ?_) #[true, false, false, false, false, false, false, false, false, false, false, false, false, false, false, false, false, false] rfl rfl (any_of HT_.out (by kernel_rfl)) (fun _ _ _ h => h) (Or.inl ⟨by rfl, ?_⟩) ?_ ?_
    rotate_left
    · intro w'
      go_simp
      first | done | with_reducible rfl
    rotate_left
    · simp only [Act.put, List.setIfInBounds_toArray, List.set_cons_zero, List.set_cons_succ, i64_w, i32_w]
      rfl
    refine pure_ (i := 1) (N := (some 76)) (v := ?_) (a' := ?_) #[true, true, false, false, false, false, false, false, false, false, false, false, false, false, false, false, false, false] rfl rfl (any_of HT_.out (by kernel_rfl)) (fun _ _ _ h => h) (Or.inl ⟨by rfl, ?_⟩) ?_ ?_
    rotate_left
    · intro w'
      go_simp
      first | done | with_reducible rfl
    rotate_left
    · simp only [Act.put, List.setIfInBounds_toArray, List.set_cons_zero, List.set_cons_succ, i64_w, i32_w]
      rfl
    refine pure_ (i := 2) (N := (some 77)) (v := ?_) (a' := ?_) #[true, true, true, false, false, false, false, false, false, false, false, false, false, false, false, false, false, false] rfl rfl (any_of HT_.out (by kernel_rfl)) (fun _ _ _ h => h) (Or.inl ⟨by rfl, ?_⟩) ?_ ?_
    rotate_left
    · intro w'
      go_simp
      first | done | with_reducible rfl
    rotate_left
    · simp only [Act.put, List.setIfInBounds_toArray, List.set_cons_zero, List.set_cons_succ, i64_w, i32_w]
      rfl
    refine take_ (i := 3) (N := (some 78)) (v := ?_) (a' := ?_) #[true, true, true, true, false, false, false, false, false, false, false, false, false, false, false, false, false, false] rfl rfl (take_ofW HT_.out HW_.out (by kernel_rfl)) (fun _ _ _ h => h) (Or.inl ⟨by rfl, ?_⟩) hHeld ?_ ?_
    rotate_left
    · rintro w' ⟨⟨s0, s1⟩, s2, s3⟩
      go_simp
      first | done | with_reducible rfl
    rotate_left
    · simp only [Act.put, List.setIfInBounds_toArray, List.set_cons_zero, List.set_cons_succ, i64_w, i32_w]
      rfl
    refine pure_ (i := 4) (N := (some 79)) (v := ?_) (a' := ?_) #[true, true, true, true, true, false, false, false, false, false, false, false, false, false, false, false, false, false] rfl rfl (any_of HT_.out (by kernel_rfl)) (fun _ _ _ h => h) (Or.inl ⟨by rfl, ?_⟩) ?_ ?_
    rotate_left
    · intro w'
      go_simp
      first | done | with_reducible rfl
    rotate_left
    · simp only [Act.put, List.setIfInBounds_toArray, List.set_cons_zero, List.set_cons_succ, i64_w, i32_w]
      rfl
    refine take_ (i := 5) (N := (some 80)) (v := ?_) (a' := ?_) #[true, true, true, true, true, true, false, false, false, false, false, false, false, false, false, false, false, false] rfl rfl (take_ofW HT_.out HW_.out (by kernel_rfl)) (fun _ _ _ h => h) (Or.inl ⟨by rfl, ?_⟩) hHeld ?_ ?_
    rotate_left
    · rintro w' ⟨⟨s0, s1⟩, s2, s3⟩
      go_simp
      first | done | with_reducible rfl
    rotate_left
    · simp only [Act.put, List.setIfInBounds_toArray, List.set_cons_zero, List.set_cons_succ, i64_w, i32_w]
      rfl
    refine pure_ (i := 6) (N := (some 81)) (v := ?_) (a' := ?_) #[true, true, true, true, true, true, true, false, false, false, false, false, false, false, false, false, false, false] rfl rfl (any_of HT_.out (by kernel_rfl)) (fun _ _ _ h => h) (Or.inl ⟨by rfl, ?_⟩) ?_ ?_
    rotate_left
    · intro w'
      go_simp
      first | done | with_reducible rfl
    rotate_left
    · simp only [Act.put, List.setIfInBounds_toArray, List.set_cons_zero, List.set_cons_succ, i64_w, i32_w]
      rfl
    refine pure_ (i := 7) (N := (some 82)) (v := ?_) (a' := ?_) #[true, true, true, true, true, true, true, true, false, false, false, false, false, false, false, false, false, false] rfl rfl (any_of HT_.out (by kernel_rfl)) (fun _ _ _ h => h) (Or.inl ⟨by rfl, ?_⟩) ?_ ?_
    rotate_left
    · intro w'
      go_simp
      first | done | with_reducible rfl
    rotate_left
    · simp only [Act.put, List.setIfInBounds_toArray, List.set_cons_zero, List.set_cons_succ, i64_w, i32_w]
      rfl
    refine pure_ (i := 8) (N := (some 83)) (v := ?_) (a' := ?_) #[true, true, true, true, true, true, true, true, true, false, false, false, false, false, false, false, false, false] rfl rfl (any_of HT_.out (by kernel_rfl)) (fun _ _ _ h => h) (Or.inl ⟨by rfl, ?_⟩) ?_ ?_
    rotate_left
    · intro w'
      go_simp
      first | done | with_reducible rfl
    rotate_left
    · simp only [Act.put, List.setIfInBounds_toArray, List.set_cons_zero, List.set_cons_succ, i64_w, i32_w]
      rfl
    refine pure_ (i := 9) (N := (some 84)) (v := ?_) (a' := ?_) #[true, true, true, true, true, true, true, true, true, true, false, false, false, false, false, false, false, false] rfl rfl (any_of HT_.out (by kernel_rfl)) (fun _ _ _ h => h) (Or.inl ⟨by rfl, ?_⟩) ?_ ?_
    rotate_left
    · intro w'
      go_simp
      first | done | with_reducible rfl
    rotate_left
    · simp only [Act.put, List.setIfInBounds_toArray, List.set_cons_zero, List.set_cons_succ, i64_w, i32_w]
      rfl
    refine pure_ (i := 10) (N := (some 85)) (v := ?_) (a' := ?_) #[true, true, true, true, true, true, true, true, true, true, true, false, false, false, false, false, false, false] rfl rfl (any_of HT_.out (by kernel_rfl)) (fun _ _ _ h => h) (Or.inl ⟨by rfl, ?_⟩) ?_ ?_
    rotate_left
    · intro w'
      go_simp
      first | done | with_reducible rfl
    rotate_left
    · simp only [Act.put, List.setIfInBounds_toArray, List.set_cons_zero, List.set_cons_succ, i64_w, i32_w]
      rfl
    refine take_ (i := 11) (N := (some 86)) (v := ?_) (a' := ?_) #[true, true, true, true, true, true, true, true, true, true, true, true, false, false, false, false, false, false] rfl rfl (take_ofW HT_.out HW_.out (by kernel_rfl)) (fun _ _ _ h => h) (Or.inl ⟨by rfl, ?_⟩) hHeld ?_ ?_
    rotate_left
    · rintro w' ⟨⟨s0, s1⟩, s2, s3⟩
      go_simp
      first | done | with_reducible rfl
    rotate_left
    · simp only [Act.put, List.setIfInBounds_toArray, List.set_cons_zero, List.set_cons_succ, i64_w, i32_w]
      rfl
    refine one_ (i := 12) (N := (some 87)) #[true, true, true, true, true, true, true, true, true, true, true, true, true, false, false, false, false, false] rfl rfl (one_of HT_.out (by kernel_rfl)) (by decide) (fun K hK => ?_)
    refine goes_ Try.func30 (by kernel_rfl) rfl #[.slice A xs.length c, .int .i64 s.keep] (by rfl) rfl rfl (by (try simp only [List.map_toArray, List.map_cons, List.map_nil]); first | done | rfl) ?_
    with_reducible refine (stands HC8.out HCL.out (by have := HLn.out; omega) s.keep (HK0.out)).mono ?_
    rintro ev_ w9 ⟨v9, rfl, hR9, hB9⟩
    refine ⟨_, rfl, ?_⟩
    obtain ⟨A9, n9, c9_, rfl⟩ := R_shape hR9
    have HV9 := Aside0.mk (fresh_R hR9 HF8.out HP8.out)
    have hB9' := below_step (below_drew (Below.refl _ w8)) hB9
    have HB9 := Aside0.mk hB9'
    have HR9 := Aside0.mk (HR8.out.below hB9')
    have HK9 := Aside0.mk (HK8.out.below hB9')
    clear hR9 hB9 hB9'
    obtain ⟨hib, hjb⟩ := bump_page HBk.out HJ.out
    have HIB := Aside0.mk hib
    obtain ⟨⟨u9, hu9⟩, fz9⟩ := pageCellB HR9.out hib hjb
    have HU9 := Aside0.mk hu9
    have HZ9 := Aside0.mk fz9
    clear hib hjb hu9 fz9
    refine hK.out _ _ (pageHeld HR8.out HBX8.out (bumpB HBk.out) rfl HB9.out) (fun hHeld => ?_)
    clear hK K
    refine norm_ (a' := ?_) ?_ ?_
    rotate_left
    · show Act.put _ (some 87) _ = _
      simp only [Act.put, List.setIfInBounds_toArray, List.set_cons_zero, List.set_cons_succ, i64_w, i32_w]
      rfl
    refine take_ (i := 13) (N := (some 88)) (v := ?_) (a' := ?_) #[true, true, true, true, true, true, true, true, true, true, true, true, true, true, false, false, false, false] rfl rfl (take_ofW HT_.out HW_.out (by kernel_rfl)) (fun _ _ _ h => h) (Or.inl ⟨by rfl, ?_⟩) hHeld ?_ ?_
    rotate_left
    · rintro w' ⟨⟨s0, s1⟩, s2, s3⟩
      go_simp
      first | done | with_reducible rfl
    rotate_left
    · simp only [Act.put, List.setIfInBounds_toArray, List.set_cons_zero, List.set_cons_succ, i64_w, i32_w]
      rfl
    refine one_ (i := 14) (N := none) #[true, true, true, true, true, true, true, true, true, true, true, true, true, true, true, false, false, false] rfl rfl (one_of HT_.out (by kernel_rfl)) (by decide) (fun K hK => ?_)
    have hu9 := HU9.out
    have fz9 := HZ9.out
    go_simp
    clear hu9 fz9
    obtain ⟨w10, hw10⟩ : ∃ w10, w9.setCell ⟨pg i, j, none⟩ (.slice A9 n9 c9_) = w10 := ⟨_, rfl⟩
    rw [hw10]
    have HR10 : Aside0 (Rep w10 base ok g h cap cs5 pg ((bump s i).mod i (pageB j (xs.take s.keep.toNat)))) := ⟨by rw [← hw10]; exact HR9.out.setP i j HIB.out _ _ HV9.out⟩
    have HK10 : Aside0 (Kp ok w w10) := ⟨by rw [← hw10]; exact HK9.out.set (p := ⟨pg i, j, none⟩) (HR9.out.okp i HIB.out) _⟩
    have HBX10 : Aside0 (w10.heap[bx]? = some (.cells #[.int .i64 (i : Int), .int .i64 (j : Int)] 40 (0, 0))) := ⟨by rw [← hw10]; obtain ⟨ps_, hp_, -⟩ := HR9.out.pgs i _ (List.getElem?_eq_getElem HIB.out); have hq_ := (HB9.out.block bx (blk_lt HBX8.out)).trans HBX8.out; exact blk_far hq_ (p := ⟨pg i, j, none⟩) (type_ne hq_ hp_ (by decide)) _⟩
    clear hw10
    refine hK.out _ _ (pageHeld HR10.out HBX10.out (modB _ (fun _ => by simp [pageB]) (bumpB HBk.out)) rfl (Below.refl _ _)) (fun hHeld => ?_)
    clear hK K
    refine pure_ (i := 15) (N := (some 89)) (v := ?_) (a' := ?_) #[true, true, true, true, true, true, true, true, true, true, true, true, true, true, true, true, false, false] rfl rfl (any_of HT_.out (by kernel_rfl)) (fun _ _ _ h => h) (Or.inl ⟨by rfl, ?_⟩) ?_ ?_
    rotate_left
    · intro w'
      go_simp
      first | done | with_reducible rfl
    rotate_left
    · simp only [Act.put, List.setIfInBounds_toArray, List.set_cons_zero, List.set_cons_succ, i64_w, i32_w]
      rfl
    refine pure_ (i := 16) (N := (some 90)) (v := ?_) (a' := ?_) #[true, true, true, true, true, true, true, true, true, true, true, true, true, true, true, true, true, false] rfl rfl (any_of HT_.out (by kernel_rfl)) (fun _ _ _ h => h) (Or.inl ⟨by rfl, ?_⟩) ?_ ?_
    rotate_left
    · intro w'
      go_simp
      first | done | with_reducible rfl
    rotate_left
    · simp only [Act.put, List.setIfInBounds_toArray, List.set_cons_zero, List.set_cons_succ, i64_w, i32_w]
      rfl
    refine one_ (i := 17) (N := none) #[true, true, true, true, true, true, true, true, true, true, true, true, true, true, true, true, true, true] rfl rfl (one_of HT_.out (by kernel_rfl)) (by decide) (fun K hK => ?_)
    have c9 := (ten HR10.out).2.1.2.2.2.2
    have f9 := (ten HR10.out).2.2 9
    go_simp
    clear c9 f9
    obtain ⟨w11, hw11⟩ : ∃ w11, w10.setCell ⟨g, 9, none⟩ (.bool true) = w11 := ⟨_, rfl⟩
    rw [hw11]
    have HR11 : Aside0 (Rep w11 base ok g h cap cs5 pg { (bump s i).mod i (pageB j (xs.take s.keep.toNat)) with down := true }) := ⟨by rw [← hw11]; exact HR10.out.setG 9 _ (by simp [Chp.cells]) rfl { HR10.out.inv with }⟩
    have HBX11 : Aside0 (w11.heap[bx]? = some (.cells #[.int .i64 (i : Int), .int .i64 (j : Int)] 40 (0, 0))) := ⟨by rw [← hw11]; exact blk_far HBX10.out (p := ⟨g, 9, none⟩) (type_ne HBX10.out HR10.out.hg (by decide)) _⟩
    have FIN : Aside0 (Now w base ok g { (bump s i).mod i (pageB j (xs.take s.keep.toNat)) with down := true } w11) := ⟨⟨⟨_, _, _, _, HR11.out⟩, by rw [← hw11]; exact HK10.out.set (p := ⟨g, 9, none⟩) HR10.out.okg _⟩⟩
    clear hw11
    refine hK.out _ _ (pageHeld HR11.out HBX11.out (modB _ (fun _ => by simp [pageB]) (bumpB HBk.out)) rfl (Below.refl _ _)) (fun hHeld => ?_)
    clear hK K
    refine done_ (done_of HT_.out (by kernel_rfl)) ?_
    go_wp2_with fail
    go_ret
    rw [goS_cut HC0.out]
    exact ⟨rfl, FIN.out⟩
  | false =>
    have hc0 : s.cut ≠ 0 := by simpa using HBC.out
    have HC0 := Aside0.mk hc0
    clear hc0
    cases bf with
    | true =>
      have hf0 : s.fail = 0 := by simpa using HBF.out
      have HF0 := Aside0.mk hf0
      clear hf0
      have HQ : Aside0 (wrap64 ((xs.length : Int) / 2) = ((xs.length / 2 : Nat) : Int)) := ⟨by have := HLn.out; unfold wrap64; omega⟩
      go_upto_region 17 with fail
      refine start_ (n := 17) (S := fun w' => (w'.cell? ⟨bx, 0, none⟩ = some (.int .i64 (i : Int)) ∧ w'.cell? ⟨bx, 1, none⟩ = some (.int .i64 (j : Int))) ∧ w'.cell? ⟨h, i * 4 + 3, none⟩ = some (.slice (some ⟨pg i, 0, none⟩) B.pages.length B.pages.length) ∧ w'.cell? ⟨g, 8, none⟩ = some (.int .i64 s.keep)) (ds := []) #[false, false, false, false, false, false, false, false, false, false, false, false, false, false, false, false, false] (by kernel_rfl) rfl rfl (pageHeld HR8.out HBX8.out (bumpB HBk.out) rfl (below_drew (Below.refl _ _))) (fun hHeld => ?_)
      refine with_tabW reg_program_17.tab reg_program_17.bits (fun HT_ HW_ => ?_)
      refine pure_ (i := 0) (N := (some 93)) (v := ?_) (a' := ?_) #[true, false, false, false, false, false, false, false, false, false, false, false, false, false, false, false, false] rfl rfl (any_of HT_.out (by kernel_rfl)) (fun _ _ _ h => h) (Or.inl ⟨by rfl, ?_⟩) ?_ ?_
      rotate_left
      · intro w'
        go_simp
        first | done | with_reducible rfl
      rotate_left
      · simp only [Act.put, List.setIfInBounds_toArray, List.set_cons_zero, List.set_cons_succ, i64_w, i32_w]
        rfl
      refine pure_ (i := 1) (N := (some 94)) (v := ?_) (a' := ?_) #[true, true, false, false, false, false, false, false, false, false, false, false, false, false, false, false, false] rfl rfl (any_of HT_.out (by kernel_rfl)) (fun _ _ _ h => h) (Or.inl ⟨by rfl, ?_⟩) ?_ ?_
      rotate_left
      · intro w'
        go_simp
        first | done | with_reducible rfl
      rotate_left
      · simp only [Act.put, List.setIfInBounds_toArray, List.set_cons_zero, List.set_cons_succ, i64_w, i32_w]
        rfl
      refine pure_ (i := 2) (N := (some 95)) (v := ?_) (a' := ?_) #[true, true, true, false, false, false, false, false, false, false, false, false, false, false, false, false, false] rfl rfl (any_of HT_.out (by kernel_rfl)) (fun _ _ _ h => h) (Or.inl ⟨by rfl, ?_⟩) ?_ ?_
      rotate_left
      · intro w'
        go_simp
        first | done | with_reducible rfl
      rotate_left
      · simp only [Act.put, List.setIfInBounds_toArray, List.set_cons_zero, List.set_cons_succ, i64_w, i32_w]
        rfl
      refine take_ (i := 3) (N := (some 96)) (v := ?_) (a' := ?_) #[true, true, true, true, false, false, false, false, false, false, false, false, false, false, false, false, false] rfl rfl (take_ofW HT_.out HW_.out (by kernel_rfl)) (fun _ _ _ h => h) (Or.inl ⟨by rfl, ?_⟩) hHeld ?_ ?_
      rotate_left
      · rintro w' ⟨⟨s0, s1⟩, s2, s3⟩
        go_simp
        first | done | with_reducible rfl
      rotate_left
      · simp only [Act.put, List.setIfInBounds_toArray, List.set_cons_zero, List.set_cons_succ, i64_w, i32_w]
        rfl
      refine pure_ (i := 4) (N := (some 97)) (v := ?_) (a' := ?_) #[true, true, true, true, true, false, false, false, false, false, false, false, false, false, false, false, false] rfl rfl (any_of HT_.out (by kernel_rfl)) (fun _ _ _ h => h) (Or.inl ⟨by rfl, ?_⟩) ?_ ?_
      rotate_left
      · intro w'
        go_simp
        first | done | with_reducible rfl
      rotate_left
      · simp only [Act.put, List.setIfInBounds_toArray, List.set_cons_zero, List.set_cons_succ, i64_w, i32_w]
        rfl
      refine take_ (i := 5) (N := (some 98)) (v := ?_) (a' := ?_) #[true, true, true, true, true, true, false, false, false, false, false, false, false, false, false, false, false] rfl rfl (take_ofW HT_.out HW_.out (by kernel_rfl)) (fun _ _ _ h => h) (Or.inl ⟨by rfl, ?_⟩) hHeld ?_ ?_
      rotate_left
      · rintro w' ⟨⟨s0, s1⟩, s2, s3⟩
        go_simp
        first | done | with_reducible rfl
      rotate_left
      · simp only [Act.put, List.setIfInBounds_toArray, List.set_cons_zero, List.set_cons_succ, i64_w, i32_w]
        rfl
      refine pure_ (i := 6) (N := (some 99)) (v := ?_) (a' := ?_) #[true, true, true, true, true, true, true, false, false, false, false, false, false, false, false, false, false] rfl rfl (any_of HT_.out (by kernel_rfl)) (fun _ _ _ h => h) (Or.inl ⟨by rfl, ?_⟩) ?_ ?_
      rotate_left
      · intro w'
        go_simp
        first | done | with_reducible rfl
      rotate_left
      · simp only [Act.put, List.setIfInBounds_toArray, List.set_cons_zero, List.set_cons_succ, i64_w, i32_w]
        rfl
      refine pure_ (i := 7) (N := (some 100)) (v := ?_) (a' := ?_) #[true, true, true, true, true, true, true, true, false, false, false, false, false, false, false, false, false] rfl rfl (any_of HT_.out (by kernel_rfl)) (fun _ _ _ h => h) (Or.inl ⟨by rfl, ?_⟩) ?_ ?_
      rotate_left
      · intro w'
        go_simp
        first | done | with_reducible rfl
      rotate_left
      · simp only [Act.put, List.setIfInBounds_toArray, List.set_cons_zero, List.set_cons_succ, i64_w, i32_w]
        rfl
      refine pure_ (i := 8) (N := (some 101)) (v := ?_) (a' := ?_) #[true, true, true, true, true, true, true, true, true, false, false, false, false, false, false, false, false] rfl rfl (any_of HT_.out (by kernel_rfl)) (fun _ _ _ h => h) (Or.inl ⟨by rfl, ?_⟩) ?_ ?_
      rotate_left
      · intro w'
        go_simp
        first | done | with_reducible rfl
      rotate_left
      · simp only [Act.put, List.setIfInBounds_toArray, List.set_cons_zero, List.set_cons_succ, i64_w, i32_w]
        rfl
      refine pure_ (i := 9) (N := (some 102)) (v := ?_) (a' := ?_) #[true, true, true, true, true, true, true, true, true, true, false, false, false, false, false, false, false] rfl rfl (any_of HT_.out (by kernel_rfl)) (fun _ _ _ h => h) (Or.inl ⟨by rfl, ?_⟩) ?_ ?_
      rotate_left
      · intro w'
        go_simp
        first | done | with_reducible rfl
      rotate_left
      · simp only [Act.put, List.setIfInBounds_toArray, List.set_cons_zero, List.set_cons_succ, i64_w, i32_w]
        rfl
      refine pure_ (i := 10) (N := (some 103)) (v := ?_) (a' := ?_) #[true, true, true, true, true, true, true, true, true, true, true, false, false, false, false, false, false] rfl rfl (any_of HT_.out (by kernel_rfl)) (fun _ _ _ h => h) (Or.inl ⟨by rfl, ?_⟩) ?_ ?_
      rotate_left
      · intro w'
        go_simp
        first | done | with_reducible rfl
      rotate_left
      · simp only [Act.put, List.setIfInBounds_toArray, List.set_cons_zero, List.set_cons_succ, i64_w, i32_w]
        rfl
      refine one_ (i := 11) (N := (some 104)) #[true, true, true, true, true, true, true, true, true, true, true, true, false, false, false, false, false] rfl rfl (one_of HT_.out (by kernel_rfl)) (by decide) (fun K hK => ?_)
      refine goes_ Try.func30 (by kernel_rfl) rfl #[.slice A xs.length c, .int .i64 (wrap64 ((xs.length : Int) / 2))] (by rfl) rfl rfl (by (try simp only [List.map_toArray, List.map_cons, List.map_nil]); first | done | rfl) ?_
      with_reducible refine (stands HC8.out HCL.out (by have := HLn.out; omega) (wrap64 ((xs.length : Int) / 2)) (by rw [HQ.out]; exact Int.natCast_nonneg _)).mono ?_
      rintro ev_ w9 ⟨v9, rfl, hR9, hB9⟩
      refine ⟨_, rfl, ?_⟩
      obtain ⟨A9, n9, c9_, rfl⟩ := R_shape hR9
      have HV9 := Aside0.mk (fresh_R hR9 HF8.out HP8.out)
      have hB9' := below_step (below_drew (Below.refl _ w8)) hB9
      have HB9 := Aside0.mk hB9'
      have HR9 := Aside0.mk (HR8.out.below hB9')
      have HK9 := Aside0.mk (HK8.out.below hB9')
      clear hR9 hB9 hB9'
      obtain ⟨hib, hjb⟩ := bump_page HBk.out HJ.out
      have HIB := Aside0.mk hib
      obtain ⟨⟨u9, hu9⟩, fz9⟩ := pageCellB HR9.out hib hjb
      have HU9 := Aside0.mk hu9
      have HZ9 := Aside0.mk fz9
      clear hib hjb hu9 fz9
      refine hK.out _ _ (pageHeld HR8.out HBX8.out (bumpB HBk.out) rfl HB9.out) (fun hHeld => ?_)
      clear hK K
      refine norm_ (a' := ?_) ?_ ?_
      rotate_left
      · show Act.put _ (some 104) _ = _
        simp only [Act.put, List.setIfInBounds_toArray, List.set_cons_zero, List.set_cons_succ, i64_w, i32_w]
        rfl
      refine take_ (i := 12) (N := (some 105)) (v := ?_) (a' := ?_) #[true, true, true, true, true, true, true, true, true, true, true, true, true, false, false, false, false] rfl rfl (take_ofW HT_.out HW_.out (by kernel_rfl)) (fun _ _ _ h => h) (Or.inl ⟨by rfl, ?_⟩) hHeld ?_ ?_
      rotate_left
      · rintro w' ⟨⟨s0, s1⟩, s2, s3⟩
        go_simp
        first | done | with_reducible rfl
      rotate_left
      · simp only [Act.put, List.setIfInBounds_toArray, List.set_cons_zero, List.set_cons_succ, i64_w, i32_w]
        rfl
      refine one_ (i := 13) (N := none) #[true, true, true, true, true, true, true, true, true, true, true, true, true, true, false, false, false] rfl rfl (one_of HT_.out (by kernel_rfl)) (by decide) (fun K hK => ?_)
      have hu9 := HU9.out
      have fz9 := HZ9.out
      go_simp
      clear hu9 fz9
      obtain ⟨w10, hw10⟩ : ∃ w10, w9.setCell ⟨pg i, j, none⟩ (.slice A9 n9 c9_) = w10 := ⟨_, rfl⟩
      rw [hw10]
      have HR10 : Aside0 (Rep w10 base ok g h cap cs5 pg ((bump s i).mod i (pageB j (xs.take (wrap64 ((xs.length : Int) / 2)).toNat)))) := ⟨by rw [← hw10]; exact HR9.out.setP i j HIB.out _ _ HV9.out⟩
      have HK10 : Aside0 (Kp ok w w10) := ⟨by rw [← hw10]; exact HK9.out.set (p := ⟨pg i, j, none⟩) (HR9.out.okp i HIB.out) _⟩
      have HBX10 : Aside0 (w10.heap[bx]? = some (.cells #[.int .i64 (i : Int), .int .i64 (j : Int)] 40 (0, 0))) := ⟨by rw [← hw10]; obtain ⟨ps_, hp_, -⟩ := HR9.out.pgs i _ (List.getElem?_eq_getElem HIB.out); have hq_ := (HB9.out.block bx (blk_lt HBX8.out)).trans HBX8.out; exact blk_far hq_ (p := ⟨pg i, j, none⟩) (type_ne hq_ hp_ (by decide)) _⟩
      clear hw10
      refine hK.out _ _ (pageHeld HR10.out HBX10.out (modB _ (fun _ => by simp [pageB]) (bumpB HBk.out)) rfl (Below.refl _ _)) (fun hHeld => ?_)
      clear hK K
      refine pure_ (i := 14) (N := (some 106)) (v := ?_) (a' := ?_) #[true, true, true, true, true, true, true, true, true, true, true, true, true, true, true, false, false] rfl rfl (any_of HT_.out (by kernel_rfl)) (fun _ _ _ h => h) (Or.inl ⟨by rfl, ?_⟩) ?_ ?_
      rotate_left
      · intro w'
        go_simp
        first | done | with_reducible rfl
      rotate_left
      · simp only [Act.put, List.setIfInBounds_toArray, List.set_cons_zero, List.set_cons_succ, i64_w, i32_w]
        rfl
      refine pure_ (i := 15) (N := (some 107)) (v := ?_) (a' := ?_) #[true, true, true, true, true, true, true, true, true, true, true, true, true, true, true, true, false] rfl rfl (any_of HT_.out (by kernel_rfl)) (fun _ _ _ h => h) (Or.inl ⟨by rfl, ?_⟩) ?_ ?_
      rotate_left
      · intro w'
        go_simp
        first | done | with_reducible rfl
      rotate_left
      · simp only [Act.put, List.setIfInBounds_toArray, List.set_cons_zero, List.set_cons_succ, i64_w, i32_w]
        rfl
      refine one_ (i := 16) (N := none) #[true, true, true, true, true, true, true, true, true, true, true, true, true, true, true, true, true] rfl rfl (one_of HT_.out (by kernel_rfl)) (by decide) (fun K hK => ?_)
      have c9 := cell0 HR10.out (modB _ (fun _ => by simp [pageB]) (bumpB HBk.out))
      have f9 : w10.frozen? ⟨h, i * 4, none⟩ = false := blk_frozen HR10.out.hh _
      obtain ⟨b9, c9⟩ := c9
      go_simp
      clear c9 f9
      obtain ⟨w11, hw11⟩ : ∃ w11, w10.setCell ⟨h, i * 4, none⟩ (.bool true) = w11 := ⟨_, rfl⟩
      rw [hw11]
      have HR11 : Aside0 (∃ cs', Rep w11 base ok g h cap cs' pg (((bump s i).mod i (pageB j (xs.take (xs.length / 2)))).mod i badB)) := ⟨by rw [← hw11]; have hr := HR10.out; rw [HQ.out, Int.toNat_natCast] at hr; exact ⟨_, hr.setH i 0 (by rw [mod_len]; exact HIB.out) (by decide) badB (fun _ => rfl) (.bool true) (fun b hb => by simp [badB]) (fun b hb => by simp [badB]) (fun b hb => by simp [badB])⟩⟩
      have HBX11 : Aside0 (w11.heap[bx]? = some (.cells #[.int .i64 (i : Int), .int .i64 (j : Int)] 40 (0, 0))) := ⟨by rw [← hw11]; exact blk_far HBX10.out (p := ⟨h, i * 4, none⟩) (type_ne HBX10.out HR10.out.hh (by decide)) _⟩
      obtain ⟨cs11, hr11⟩ := HR11.out
      have HR12 := Aside0.mk hr11
      clear hr11
      have FIN : Aside0 (Now w base ok g (((bump s i).mod i (pageB j (xs.take (xs.length / 2)))).mod i badB) w11) := ⟨⟨⟨_, _, _, _, HR12.out⟩, by rw [← hw11]; exact HK10.out.set (p := ⟨h, i * 4, none⟩) HR10.out.okh _⟩⟩
      clear hw11
      refine hK.out _ _ (pageHeld HR12.out HBX11.out (modB _ (fun _ => rfl) (modB _ (fun _ => by simp [pageB]) (bumpB HBk.out))) rfl (Below.refl _ _)) (fun hHeld => ?_)
      clear hK K
      refine done_ (done_of HT_.out (by kernel_rfl)) ?_
      go_wp2_with fail
      go_ret
      rw [goS_fail HC0.out HF0.out]
      exact ⟨rfl, FIN.out⟩
    | false =>
      have hf0 : s.fail ≠ 0 := by simpa using HBF.out
      have HF0 := Aside0.mk hf0
      clear hf0
      go_upto_region 19 with fail
      refine start_ (n := 12) (S := fun w' => (w'.cell? ⟨bx, 0, none⟩ = some (.int .i64 (i : Int)) ∧ w'.cell? ⟨bx, 1, none⟩ = some (.int .i64 (j : Int))) ∧ w'.cell? ⟨h, i * 4 + 3, none⟩ = some (.slice (some ⟨pg i, 0, none⟩) B.pages.length B.pages.length) ∧ w'.cell? ⟨g, 8, none⟩ = some (.int .i64 s.keep)) (ds := []) #[false, false, false, false, false, false, false, false, false, false, false, false] (by kernel_rfl) rfl rfl (pageHeld HR8.out HBX8.out (bumpB HBk.out) rfl (below_drew (Below.refl _ _))) (fun hHeld => ?_)
      refine with_tabW reg_program_19.tab reg_program_19.bits (fun HT_ HW_ => ?_)
      refine pure_ (i := 0) (N := (some 108)) (v := ?_) (a' := ?_) #[true, false, false, false, false, false, false, false, false, false, false, false] rfl rfl (any_of HT_.out (by kernel_rfl)) (fun _ _ _ h => h) (Or.inl ⟨by rfl, ?_⟩) ?_ ?_
      rotate_left
      · intro w'
        go_simp
        first | done | with_reducible rfl
      rotate_left
      · simp only [Act.put, List.setIfInBounds_toArray, List.set_cons_zero, List.set_cons_succ, i64_w, i32_w]
        rfl
      refine pure_ (i := 1) (N := (some 109)) (v := ?_) (a' := ?_) #[true, true, false, false, false, false, false, false, false, false, false, false] rfl rfl (any_of HT_.out (by kernel_rfl)) (fun _ _ _ h => h) (Or.inl ⟨by rfl, ?_⟩) ?_ ?_
      rotate_left
      · intro w'
        go_simp
        first | done | with_reducible rfl
      rotate_left
      · simp only [Act.put, List.setIfInBounds_toArray, List.set_cons_zero, List.set_cons_succ, i64_w, i32_w]
        rfl
      refine pure_ (i := 2) (N := (some 110)) (v := ?_) (a' := ?_) #[true, true, true, false, false, false, false, false, false, false, false, false] rfl rfl (any_of HT_.out (by kernel_rfl)) (fun _ _ _ h => h) (Or.inl ⟨by rfl, ?_⟩) ?_ ?_
      rotate_left
      · intro w'
        go_simp
        first | done | with_reducible rfl
      rotate_left
      · simp only [Act.put, List.setIfInBounds_toArray, List.set_cons_zero, List.set_cons_succ, i64_w, i32_w]
        rfl
      refine take_ (i := 3) (N := (some 111)) (v := ?_) (a' := ?_) #[true, true, true, true, false, false, false, false, false, false, false, false] rfl rfl (take_ofW HT_.out HW_.out (by kernel_rfl)) (fun _ _ _ h => h) (Or.inl ⟨by rfl, ?_⟩) hHeld ?_ ?_
      rotate_left
      · rintro w' ⟨⟨s0, s1⟩, s2, s3⟩
        go_simp
        first | done | with_reducible rfl
      rotate_left
      · simp only [Act.put, List.setIfInBounds_toArray, List.set_cons_zero, List.set_cons_succ, i64_w, i32_w]
        rfl
      refine pure_ (i := 4) (N := (some 112)) (v := ?_) (a' := ?_) #[true, true, true, true, true, false, false, false, false, false, false, false] rfl rfl (any_of HT_.out (by kernel_rfl)) (fun _ _ _ h => h) (Or.inl ⟨by rfl, ?_⟩) ?_ ?_
      rotate_left
      · intro w'
        go_simp
        first | done | with_reducible rfl
      rotate_left
      · simp only [Act.put, List.setIfInBounds_toArray, List.set_cons_zero, List.set_cons_succ, i64_w, i32_w]
        rfl
      refine take_ (i := 5) (N := (some 113)) (v := ?_) (a' := ?_) #[true, true, true, true, true, true, false, false, false, false, false, false] rfl rfl (take_ofW HT_.out HW_.out (by kernel_rfl)) (fun _ _ _ h => h) (Or.inl ⟨by rfl, ?_⟩) hHeld ?_ ?_
      rotate_left
      · rintro w' ⟨⟨s0, s1⟩, s2, s3⟩
        go_simp
        first | done | with_reducible rfl
      rotate_left
      · simp only [Act.put, List.setIfInBounds_toArray, List.set_cons_zero, List.set_cons_succ, i64_w, i32_w]
        rfl
      refine pure_ (i := 6) (N := (some 114)) (v := ?_) (a' := ?_) #[true, true, true, true, true, true, true, false, false, false, false, false] rfl rfl (any_of HT_.out (by kernel_rfl)) (fun _ _ _ h => h) (Or.inl ⟨by rfl, ?_⟩) ?_ ?_
      rotate_left
      · intro w'
        go_simp
        first | done | with_reducible rfl
      rotate_left
      · simp only [Act.put, List.setIfInBounds_toArray, List.set_cons_zero, List.set_cons_succ, i64_w, i32_w]
        rfl
      refine pure_ (i := 7) (N := (some 115)) (v := ?_) (a' := ?_) #[true, true, true, true, true, true, true, true, false, false, false, false] rfl rfl (any_of HT_.out (by kernel_rfl)) (fun _ _ _ h => h) (Or.inl ⟨by rfl, ?_⟩) ?_ ?_
      rotate_left
      · intro w'
        go_simp
        first | done | with_reducible rfl
      rotate_left
      · simp only [Act.put, List.setIfInBounds_toArray, List.set_cons_zero, List.set_cons_succ, i64_w, i32_w]
        rfl
      refine pure_ (i := 8) (N := (some 116)) (v := ?_) (a' := ?_) #[true, true, true, true, true, true, true, true, true, false, false, false] rfl rfl (any_of HT_.out (by kernel_rfl)) (fun _ _ _ h => h) (Or.inl ⟨by rfl, ?_⟩) ?_ ?_
      rotate_left
      · intro w'
        go_simp
        first | done | with_reducible rfl
      rotate_left
      · simp only [Act.put, List.setIfInBounds_toArray, List.set_cons_zero, List.set_cons_succ, i64_w, i32_w]
        rfl
      refine one_ (i := 9) (N := (some 117)) #[true, true, true, true, true, true, true, true, true, true, false, false] rfl rfl (one_of HT_.out (by kernel_rfl)) (by decide) (fun K hK => ?_)
      refine goes_ Try.func30 (by kernel_rfl) rfl #[.slice A xs.length c, .int .i64 (xs.length : Int)] (by rfl) rfl rfl (by (try simp only [List.map_toArray, List.map_cons, List.map_nil]); first | done | rfl) ?_
      with_reducible refine (stands HC8.out HCL.out (by have := HLn.out; omega) (xs.length : Int) (Int.natCast_nonneg _)).mono ?_
      rintro ev_ w9 ⟨v9, rfl, hR9, hB9⟩
      refine ⟨_, rfl, ?_⟩
      obtain ⟨A9, n9, c9_, rfl⟩ := R_shape hR9
      have HV9 := Aside0.mk (fresh_R hR9 HF8.out HP8.out)
      have hB9' := below_step (below_drew (Below.refl _ w8)) hB9
      have HB9 := Aside0.mk hB9'
      have HR9 := Aside0.mk (HR8.out.below hB9')
      have HK9 := Aside0.mk (HK8.out.below hB9')
      clear hR9 hB9 hB9'
      obtain ⟨hib, hjb⟩ := bump_page HBk.out HJ.out
      have HIB := Aside0.mk hib
      obtain ⟨⟨u9, hu9⟩, fz9⟩ := pageCellB HR9.out hib hjb
      have HU9 := Aside0.mk hu9
      have HZ9 := Aside0.mk fz9
      clear hib hjb hu9 fz9
      refine hK.out _ _ (pageHeld HR8.out HBX8.out (bumpB HBk.out) rfl HB9.out) (fun hHeld => ?_)
      clear hK K
      refine norm_ (a' := ?_) ?_ ?_
      rotate_left
      · show Act.put _ (some 117) _ = _
        simp only [Act.put, List.setIfInBounds_toArray, List.set_cons_zero, List.set_cons_succ, i64_w, i32_w]
        rfl
      refine take_ (i := 10) (N := (some 118)) (v := ?_) (a' := ?_) #[true, true, true, true, true, true, true, true, true, true, true, false] rfl rfl (take_ofW HT_.out HW_.out (by kernel_rfl)) (fun _ _ _ h => h) (Or.inl ⟨by rfl, ?_⟩) hHeld ?_ ?_
      rotate_left
      · rintro w' ⟨⟨s0, s1⟩, s2, s3⟩
        go_simp
        first | done | with_reducible rfl
      rotate_left
      · simp only [Act.put, List.setIfInBounds_toArray, List.set_cons_zero, List.set_cons_succ, i64_w, i32_w]
        rfl
      refine one_ (i := 11) (N := none) #[true, true, true, true, true, true, true, true, true, true, true, true] rfl rfl (one_of HT_.out (by kernel_rfl)) (by decide) (fun K hK => ?_)
      have hu9 := HU9.out
      have fz9 := HZ9.out
      go_simp
      clear hu9 fz9
      obtain ⟨w10, hw10⟩ : ∃ w10, w9.setCell ⟨pg i, j, none⟩ (.slice A9 n9 c9_) = w10 := ⟨_, rfl⟩
      rw [hw10]
      have HR10 : Aside0 (Rep w10 base ok g h cap cs5 pg ((bump s i).mod i (pageB j (xs.take (xs.length : Int).toNat)))) := ⟨by rw [← hw10]; exact HR9.out.setP i j HIB.out _ _ HV9.out⟩
      have HK10 : Aside0 (Kp ok w w10) := ⟨by rw [← hw10]; exact HK9.out.set (p := ⟨pg i, j, none⟩) (HR9.out.okp i HIB.out) _⟩
      have HBX10 : Aside0 (w10.heap[bx]? = some (.cells #[.int .i64 (i : Int), .int .i64 (j : Int)] 40 (0, 0))) := ⟨by rw [← hw10]; obtain ⟨ps_, hp_, -⟩ := HR9.out.pgs i _ (List.getElem?_eq_getElem HIB.out); have hq_ := (HB9.out.block bx (blk_lt HBX8.out)).trans HBX8.out; exact blk_far hq_ (p := ⟨pg i, j, none⟩) (type_ne hq_ hp_ (by decide)) _⟩
      clear hw10
      refine hK.out _ _ (pageHeld HR10.out HBX10.out (modB _ (fun _ => by simp [pageB]) (bumpB HBk.out)) rfl (Below.refl _ _)) (fun hHeld => ?_)
      clear hK K
      refine done_ (done_of HT_.out (by kernel_rfl)) ?_
      go_wp2_with fail
      go_ret
      rw [goS_ok HC0.out HF0.out]
      have hr := HR10.out
      rw [Int.toNat_natCast, List.take_length] at hr
      exact ⟨rfl, ⟨_, _, _, _, hr⟩, HK10.out⟩
set_option maxHeartbeats 8000000 in
set_option maxRecDepth 100000 in
/-- Program. -/
theorem program {w : World} {base : Nat} {ok : Nat → Prop} {g : Nat} {s : Chp} (hI : IsChip w base ok g s) (b p : Int) (A : Option Addr) (c : Nat) (xs : List Int) (hRA : Kd.C (Kd.int .u8) w A xs.length xs) (hcl : xs.length ≤ c) (hdj : ∀ ad, A = some ad → ¬ ok ad.block) (hF : Fr ok w) :
    Calls Try.prog 13 #[.pointer (some ⟨g, 0, none⟩), .agg #[.int .i64 b, .int .i64 p], .slice A xs.length c] w fun e w' => e = .returned (.int .i64 (progS s b p xs).2) ∧ Now w base ok g (progS s b p xs).1 w' := by
  by_cases hx : spotB s b p = true ∧ 1 ≤ xs.length ∧ xs.length ≤ 2000
  · obtain ⟨i, j, B, ys, rfl, rfl, hB, -, hi, hj⟩ := spot_at hI.inv hx.1
    unfold progS
    rw [if_pos hx]
    simp only [Int.toNat_natCast, hB]
    by_cases hd : s.down = true
    · rw [if_pos hd]
      exact prog_down hI i j B A c xs hx.1 hB hi hj hx.2 hd
    · rw [if_neg hd]
      by_cases hb : B.bad = true
      · rw [if_pos hb]
        exact prog_bad hI i j B A c xs hx.1 hB hi hj hx.2 (by simpa using hd) hb
      · rw [if_neg hb]
        by_cases hn : (j : Int) ≠ B.next
        · rw [if_pos hn]
          exact prog_order hI i j B A c xs hx.1 hB hi hj hx.2 (by simpa using hd) (by simpa using hb) hn
        · rw [if_neg hn]
          exact prog_go hI i j B A c xs hx.1 hB hi hj hx.2 (by simpa using hd) (by simpa using hb) (Decidable.of_not_not hn) hRA hcl hdj hF
  · unfold progS
    rw [if_neg hx]
    exact prog_arg hI b p A c xs hx
end Go.Proofs.Ytkncmbbkehnagaa.Cm

set_option linter.unusedVariables false
set_option linter.unusedSimpArgs false
/-! The chip's Erase. -/
namespace Go.Proofs.Ytkncmbbkehnagaa.Cm
open Go.RowKit Go.Proofs.YtkncmbbkehnagaaW.PrintWords Go.Proofs.YtkncmbbkehnagaaW.PrintLast Go.Proofs.YtkncmbbkehnagaaW.PrintMore Go.Proofs.Ytkncmbbkehnagaa.Kp Go.Proofs.Ytkncmbbkehnagaa.Cp
attribute [local go_sem] max2_int min2_int max_two min_two max_three min_three max_four min_four

theorem has_at {s : Chp} {b : Int} (h : hasB s b = true) : ∃ (i : Nat) (B : Blk), b = i ∧ s.blocks[i]? = some B ∧ i < s.blocks.length := by
  unfold hasB at h
  simp only [Bool.and_eq_true, decide_eq_true_eq] at h
  have hi : b.toNat < s.blocks.length := by omega
  exact ⟨b.toNat, _, by omega, List.getElem?_eq_getElem hi, hi⟩
theorem infoY : (Try.prog.info? 26).map (fun i => (i.zero, i.size, i.bytes)) = some (some (.slice none 0 0), 1, 24) := by kernel_rfl
end Go.Proofs.Ytkncmbbkehnagaa.Cm

