import Derived.Test.YtloldgiggnhemaaRr
set_option linter.unusedVariables false
set_option linter.unusedSimpArgs false
/-! The reference chip's Program. -/
namespace Go.Proofs.Ytloldgiggnhemaa.Cm
open Go.RowKit Go.Proofs.YtloldgiggnhemaaW.PrintWords Go.Proofs.YtloldgiggnhemaaW.PrintLast Go.Proofs.YtloldgiggnhemaaW.PrintMore Go.Proofs.Ytloldgiggnhemaa.Kp Go.Proofs.Ytloldgiggnhemaa.Cp
attribute [local go_sem] max2_int min2_int max_two min_two max_three min_three max_four min_four

def rbump (s : Chp) (i : Nat) : Chp := { s.mod i nextB with bp := wrap64 (s.bp + 1), cut := rdec s.cut, fail := rdec s.fail }
def rgoS (s : Chp) (i j : Nat) (xs : List Int) : Chp × Int :=
  if s.cut = 1 then ({ (rbump s i).mod i (pageB j (xs.take s.keep.toNat)) with down := true }, 2)
  else if s.fail = 1 then (((rbump s i).mod i (pageB j (xs.take (xs.length / 2)))).mod i badB, 3)
  else ((rbump s i).mod i (pageB j xs), 0)
theorem rgoS_cut {s : Chp} {i j : Nat} {xs : List Int} (h : s.cut = 1) : rgoS s i j xs = ({ (rbump s i).mod i (pageB j (xs.take s.keep.toNat)) with down := true }, 2) := by unfold rgoS; rw [if_pos h]
theorem rgoS_fail {s : Chp} {i j : Nat} {xs : List Int} (h : s.cut ≠ 1) (h2 : s.fail = 1) : rgoS s i j xs = (((rbump s i).mod i (pageB j (xs.take (xs.length / 2)))).mod i badB, 3) := by unfold rgoS; rw [if_neg h, if_pos h2]
theorem rgoS_ok {s : Chp} {i j : Nat} {xs : List Int} (h : s.cut ≠ 1) (h2 : s.fail ≠ 1) : rgoS s i j xs = ((rbump s i).mod i (pageB j xs), 0) := by unfold rgoS; rw [if_neg h, if_neg h2]
def rprogS (s : Chp) (b p : Int) (xs : List Int) : Chp × Int :=
  if spotB s b p = true ∧ 1 ≤ xs.length ∧ xs.length ≤ 2000 then
    if s.down = true then (s, 2) else
    match s.blocks[b.toNat]? with
    | none => (s, 1)
    | some B => if B.bad = true then (s, 3) else if p ≠ B.next then (s, 4) else rgoS s b.toNat p.toNat xs
  else (s, 1)
theorem upto_min {w0 : World} {A : Option Addr} {c : Nat} {l : List Int} {k : Int} (hC : Kd.C (Kd.int .u8) w0 A l.length l) (hc : l.length ≤ c) (hk : 0 ≤ k) :
    ∃ hi A' c', (if (l.length : Int) < k then (l.length : Int) else k) = hi ∧ (∀ W : World, (Instr.slice 22 (.slice A l.length c) none (some (.int .i64 hi)) none).run Try.prog W = .ok (.slice A' (l.take k.toNat).length c') W) ∧ Kd.C (Kd.int .u8) w0 A' (l.take k.toNat).length (l.take k.toNat) ∧ (l.take k.toNat).length ≤ c' := by
  by_cases h : (l.length : Int) < k
  · obtain ⟨A', c', h1, h2, h3⟩ := upto_rd hC hc (Int.natCast_nonneg l.length) (Int.le_refl _)
    have e : l.take (l.length : Int).toNat = l.take k.toNat := by rw [List.take_of_length_le (by omega), List.take_of_length_le (by omega)]
    rw [e] at h1 h2 h3
    exact ⟨_, A', c', if_pos h, h1, h2, h3⟩
  · obtain ⟨A', c', h1, h2, h3⟩ := upto_rd hC hc hk (Int.not_lt.1 h)
    exact ⟨_, A', c', if_neg h, h1, h2, h3⟩
theorem rplaceHeld {w w' : World} {bx i j : Nat} {B : Blk} {base : Nat} {ok : Nat → Prop} {g h cap : Nat} {cs : Array Value} {pg : Nat → Nat} {s : Chp} (r : RRep w base ok g h cap cs pg s) (hbx : w.heap[bx]? = some (.cells #[.int .i64 (i : Int), .int .i64 (j : Int)] 29 (0, 0)))
    (hB : s.blocks[i]? = some B) {bb : Bool} (hbb : B.bad = bb) {nx : Int} (hnx : B.next = nx) (hb : Below w.heap.size w w') :
    (w'.cell? ⟨bx, 0, none⟩ = some (.int .i64 (i : Int)) ∧ w'.cell? ⟨bx, 1, none⟩ = some (.int .i64 (j : Int))) ∧ w'.cell? ⟨g, 0, none⟩ = some (.slice (some ⟨h, 0, none⟩) s.blocks.length cap) ∧ w'.cell? ⟨h, i * 4, none⟩ = some (.bool bb) ∧ w'.cell? ⟨h, i * 4 + 1, none⟩ = some (.int .i64 nx) :=
  ⟨⟨pw_cell_below hb (two hbx).1, pw_cell_below hb (two hbx).2⟩, pw_cell_below hb (rten r).1.1, pw_cell_below hb (hbb ▸ (rrowCells r hB).1), pw_cell_below hb (hnx ▸ (rrowCells r hB).2.1)⟩
theorem rpageHeld {w w' : World} {bx n i j : Nat} {kp : Int} {base : Nat} {ok : Nat → Prop} {g h cap : Nat} {cs : Array Value} {pg : Nat → Nat} {s : Chp} (r : RRep w base ok g h cap cs pg s) (hbx : w.heap[bx]? = some (.cells #[.int .i64 (i : Int), .int .i64 (j : Int)] 29 (0, 0)))
    (hB : ∃ B, s.blocks[i]? = some B ∧ B.pages.length = n) (hk : s.keep = kp) (hb : Below w.heap.size w w') :
    (w'.cell? ⟨bx, 0, none⟩ = some (.int .i64 (i : Int)) ∧ w'.cell? ⟨bx, 1, none⟩ = some (.int .i64 (j : Int))) ∧ w'.cell? ⟨h, i * 4 + 3, none⟩ = some (.slice (some ⟨pg i, 0, none⟩) n n) ∧ w'.cell? ⟨g, 5, none⟩ = some (.int .i64 kp) := by
  obtain ⟨B, hB, rfl⟩ := hB
  obtain rfl := hk
  exact ⟨⟨pw_cell_below hb (two hbx).1, pw_cell_below hb (two hbx).2⟩, pw_cell_below hb (rrowCells r hB).2.2.2, pw_cell_below hb (rten r).2.1.1⟩
theorem rbumpB {s : Chp} {i : Nat} {B : Blk} (hB : s.blocks[i]? = some B) : ∃ B', (rbump s i).blocks[i]? = some B' ∧ B'.pages.length = B.pages.length := by
  obtain ⟨B', h1, h2⟩ := modB nextB (fun _ => rfl) ⟨B, hB, rfl⟩
  exact ⟨B', h1, h2⟩
theorem rpageCellB {W : World} {base : Nat} {ok : Nat → Prop} {g h cap : Nat} {cs : Array Value} {pg : Nat → Nat} {s : Chp} (r : RRep W base ok g h cap cs pg s) {i j : Nat} (hi : i < s.blocks.length) (hj : j < (s.blocks[i]).pages.length) :
    (∃ v, W.cell? ⟨pg i, j, none⟩ = some v) ∧ W.frozen? ⟨pg i, j, none⟩ = false := by
  obtain ⟨ps, h1, h2⟩ := r.pgs i _ (List.getElem?_eq_getElem hi)
  obtain ⟨v, h3, _⟩ := h2 j _ (List.getElem?_eq_getElem hj)
  exact ⟨⟨v, (blk_cell h1 _).trans h3⟩, blk_frozen h1 _⟩
theorem rcell0 {W : World} {n : Nat} {base : Nat} {ok : Nat → Prop} {g h cap : Nat} {cs : Array Value} {pg : Nat → Nat} {s : Chp} (r : RRep W base ok g h cap cs pg s) {i : Nat} (hB : ∃ B, s.blocks[i]? = some B ∧ B.pages.length = n) : ∃ b : Bool, W.cell? ⟨h, i * 4, none⟩ = some (.bool b) := by
  obtain ⟨B, hB, -⟩ := hB
  exact ⟨_, (rrowCells r hB).1⟩
theorem rbump_page {s : Chp} {i j : Nat} {B : Blk} (hB : s.blocks[i]? = some B) (hj : j < B.pages.length) : ∃ hi : i < (rbump s i).blocks.length, j < ((rbump s i).blocks[i]).pages.length := by
  have hB' : (rbump s i).blocks[i]? = some (nextB B) := by
    show (s.mod i nextB).blocks[i]? = _
    rw [mod_get, if_pos rfl, hB]
    rfl
  obtain ⟨hi, he⟩ := List.getElem?_eq_some_iff.1 hB'
  exact ⟨hi, by rw [he]; exact hj⟩
set_option maxHeartbeats 8000000 in
set_option maxRecDepth 100000 in
theorem rprog_arg {w : World} {base : Nat} {ok : Nat → Prop} {g : Nat} {s : Chp} (hI : IsRef w base ok g s) (b p : Int) (A : Option Addr) (c : Nat) (xs : List Int) (hx : ¬ (spotB s b p = true ∧ 1 ≤ xs.length ∧ xs.length ≤ 2000)) :
    Calls Try.prog 31 #[.pointer (some ⟨g, 0, none⟩), .agg #[.int .i64 b, .int .i64 p], .slice A xs.length c] w fun e w' => e = .returned (.int .i64 1) ∧ RNow w base ok g s w' := by
  have HB := Aside0.mk (below_alloc (Below.refl _ w) (.cells #[.int .i64 b, .int .i64 p] 29))
  have hI1 := hI.below HB.out
  obtain ⟨w1, hw1⟩ : ∃ w1, w.alloc (.cells #[.int .i64 b, .int .i64 p] 29) = w1 := ⟨_, rfl⟩
  obtain ⟨bx, hbx⟩ : ∃ bx, w.heap.size = bx := ⟨_, rfl⟩
  have hbox : w1.heap[bx]? = some (.cells #[.int .i64 b, .int .i64 p] 29 (0, 0)) := by rw [← hw1, ← hbx]; simpa using heap_alloc_new w (.cells #[.int .i64 b, .int .i64 p] 29)
  rw [hw1] at HB hI1
  have HI1 := Aside0.mk hI1
  have HI := Aside0.mk hI
  have HBX := Aside0.mk hbox
  have HW := Aside0.mk hw1
  have HX := Aside0.mk hbx
  obtain ⟨x0, x1⟩ := two hbox
  clear hI hI1 hbox hw1 hbx
  cases hs : spotB s b p with
  | false =>
    have HS := Aside0.mk hs
    clear hs hx
    go_enter Try.func31, Try.ntmps31
    go_wp2_with fail
    rw [HW.out, HX.out]
    have hcc := rhas HI1.out b p
    rw [HS.out] at hcc
    refine hcc.mono ?_
    clear hcc
    rintro ev w2 ⟨rfl, hb⟩
    have HI2 := Aside0.mk (HI1.out.below hb)
    have HK2 := Aside0.mk ((Kp.of_below HB.out ok).below hb)
    clear hb
    go_wp2_with fail
    go_ret
    exact ⟨rfl, HI2.out, HK2.out⟩
  | true =>
    have HS := Aside0.mk hs
    by_cases h1 : 1 ≤ xs.length
    · have h2 : decide ((xs.length : Int) < 1) = false := decide_eq_false (by omega)
      have h2n : decide (xs.length < 1) = false := decide_eq_false (by omega)
      have h3 : ((xs.length : Int) > 2000) := by have : ¬ xs.length ≤ 2000 := fun h => hx ⟨hs, h1, h⟩; omega
      clear hs hx h1
      go_enter Try.func31, Try.ntmps31
      go_wp2_with fail
      rw [HW.out, HX.out]
      have hcc := rhas HI1.out b p
      rw [HS.out] at hcc
      refine hcc.mono ?_
      clear hcc
      rintro ev w2 ⟨rfl, hb⟩
      have HI2 := Aside0.mk (HI1.out.below hb)
      have HK2 := Aside0.mk ((Kp.of_below HB.out ok).below hb)
      clear hb
      go_wp2_with fail
      go_ret
      exact ⟨rfl, HI2.out, HK2.out⟩
    · have h2 : decide ((xs.length : Int) < 1) = true := decide_eq_true (by omega)
      have h2n : decide (xs.length < 1) = true := decide_eq_true (by omega)
      clear hs hx h1
      go_enter Try.func31, Try.ntmps31
      go_wp2_with fail
      rw [HW.out, HX.out]
      have hcc := rhas HI1.out b p
      rw [HS.out] at hcc
      refine hcc.mono ?_
      clear hcc
      rintro ev w2 ⟨rfl, hb⟩
      have HI2 := Aside0.mk (HI1.out.below hb)
      have HK2 := Aside0.mk ((Kp.of_below HB.out ok).below hb)
      clear hb
      go_wp2_with fail
      go_ret
      exact ⟨rfl, HI2.out, HK2.out⟩
def reg_rprogram_5.T : Bool × List (List Nat × List Nat) := (true, [([], []), ([0], [0]), ([1], [1]), ([2], [2]), ([], []), ([4], [4]), ([3, 5], [3, 5]), ([6], [6]), ([7], [7]), ([8], [8])])
def reg_rprogram_5.B : List Nat := [0, 1, 3, 7, 0, 16, 63, 127, 255, 511]
theorem reg_rprogram_5.tab : rtab .any (opsOf Try.f31 5) = reg_rprogram_5.T := by kernel_rfl
theorem reg_rprogram_5.bits : waitsOk reg_rprogram_5.T.2 reg_rprogram_5.B = true := by kernel_rfl
def reg_rprogram_7.T : Bool × List (List Nat × List Nat) := (true, [([], []), ([0], [0]), ([], []), ([2], [2]), ([3], [3]), ([4], [4]), ([], []), ([6], [6]), ([5, 7], [5, 7]), ([8], [8]), ([9], [9]), ([1, 10], [1, 10]), ([11], [11])])
def reg_rprogram_7.B : List Nat := [0, 1, 0, 4, 12, 28, 0, 64, 252, 508, 1020, 2047, 4095]
theorem reg_rprogram_7.tab : rtab .any (opsOf Try.f31 7) = reg_rprogram_7.T := by kernel_rfl
theorem reg_rprogram_7.bits : waitsOk reg_rprogram_7.T.2 reg_rprogram_7.B = true := by kernel_rfl
set_option maxHeartbeats 8000000 in
set_option maxRecDepth 100000 in
theorem rprog_down {w : World} {base : Nat} {ok : Nat → Prop} {g : Nat} {s : Chp} (hI : IsRef w base ok g s) (i j : Nat) (B : Blk) (A : Option Addr) (c : Nat) (xs : List Int) (hs : spotB s (i : Int) (j : Int) = true) (hB : s.blocks[i]? = some B) (hi : i < s.blocks.length) (hj : j < B.pages.length) (hl : 1 ≤ xs.length ∧ xs.length ≤ 2000) (hd : s.down = true) :
    Calls Try.prog 31 #[.pointer (some ⟨g, 0, none⟩), .agg #[.int .i64 (i : Int), .int .i64 (j : Int)], .slice A xs.length c] w fun e w' => e = .returned (.int .i64 2) ∧ RNow w base ok g s w' := by
  have HB := Aside0.mk (below_alloc (Below.refl _ w) (.cells #[.int .i64 (i : Int), .int .i64 (j : Int)] 29))
  have hI1 := hI.below HB.out
  obtain ⟨w1, hw1⟩ : ∃ w1, w.alloc (.cells #[.int .i64 (i : Int), .int .i64 (j : Int)] 29) = w1 := ⟨_, rfl⟩
  obtain ⟨bx, hbx⟩ : ∃ bx, w.heap.size = bx := ⟨_, rfl⟩
  have hbox : w1.heap[bx]? = some (.cells #[.int .i64 (i : Int), .int .i64 (j : Int)] 29 (0, 0)) := by rw [← hw1, ← hbx]; simpa using heap_alloc_new w (.cells #[.int .i64 (i : Int), .int .i64 (j : Int)] 29)
  rw [hw1] at HB hI1
  have HI1 := Aside0.mk hI1
  have HI := Aside0.mk hI
  have HBX := Aside0.mk hbox
  have HW := Aside0.mk hw1
  have HX := Aside0.mk hbx
  obtain ⟨x0, x1⟩ := two hbox
  clear hI hI1 hbox hw1 hbx
  have hl1 : decide ((xs.length : Int) < 1) = false := decide_eq_false (by omega)
  have hl2 : decide ((xs.length : Int) > 2000) = false := decide_eq_false (by omega)
  have hl1n : decide (xs.length < 1) = false := decide_eq_false (by omega)
  have hl2n : decide (xs.length > 2000) = false := decide_eq_false (by omega)
  have hin : ((i : Nat) : Int) < (s.blocks.length : Int) := by omega
  have hjn : ((j : Nat) : Int) < (B.pages.length : Int) := by omega
  have HS := Aside0.mk hs
  have HBk := Aside0.mk hB
  have HLn := Aside0.mk hl
  have HJ := Aside0.mk hj
  have HIn := Aside0.mk hi
  clear hs hB hi hj hl
  go_enter Try.func31, Try.ntmps31
  go_wp2_with fail
  rw [HW.out, HX.out]
  have hcc := rhas HI1.out (i : Int) (j : Int)
  rw [HS.out] at hcc
  refine hcc.mono ?_
  clear hcc
  rintro ev w2 ⟨rfl, hb⟩
  have HBX2 := Aside0.mk ((hb.block bx (blk_lt HBX.out)).trans HBX.out)
  have HK2 := Aside0.mk ((Kp.of_below HB.out ok).below hb)
  have hI2 := HI1.out.below hb
  obtain ⟨h, cap, cs, pg, r⟩ := hI2
  have HR2 := Aside0.mk r
  obtain ⟨-, ⟨-, c6, -⟩, -⟩ := rten r
  rw [hd] at c6
  clear r hb x0 x1 hd
  go_wp2_with fail
  go_ret
  exact ⟨rfl, ⟨_, _, _, _, HR2.out⟩, HK2.out⟩
set_option maxHeartbeats 8000000 in
set_option maxRecDepth 100000 in
theorem rprog_bad {w : World} {base : Nat} {ok : Nat → Prop} {g : Nat} {s : Chp} (hI : IsRef w base ok g s) (i j : Nat) (B : Blk) (A : Option Addr) (c : Nat) (xs : List Int) (hs : spotB s (i : Int) (j : Int) = true) (hB : s.blocks[i]? = some B) (hi : i < s.blocks.length) (hj : j < B.pages.length) (hl : 1 ≤ xs.length ∧ xs.length ≤ 2000) (hd : s.down = false) (hbad : B.bad = true) :
    Calls Try.prog 31 #[.pointer (some ⟨g, 0, none⟩), .agg #[.int .i64 (i : Int), .int .i64 (j : Int)], .slice A xs.length c] w fun e w' => e = .returned (.int .i64 3) ∧ RNow w base ok g s w' := by
  have HB := Aside0.mk (below_alloc (Below.refl _ w) (.cells #[.int .i64 (i : Int), .int .i64 (j : Int)] 29))
  have hI1 := hI.below HB.out
  obtain ⟨w1, hw1⟩ : ∃ w1, w.alloc (.cells #[.int .i64 (i : Int), .int .i64 (j : Int)] 29) = w1 := ⟨_, rfl⟩
  obtain ⟨bx, hbx⟩ : ∃ bx, w.heap.size = bx := ⟨_, rfl⟩
  have hbox : w1.heap[bx]? = some (.cells #[.int .i64 (i : Int), .int .i64 (j : Int)] 29 (0, 0)) := by rw [← hw1, ← hbx]; simpa using heap_alloc_new w (.cells #[.int .i64 (i : Int), .int .i64 (j : Int)] 29)
  rw [hw1] at HB hI1
  have HI1 := Aside0.mk hI1
  have HI := Aside0.mk hI
  have HBX := Aside0.mk hbox
  have HW := Aside0.mk hw1
  have HX := Aside0.mk hbx
  obtain ⟨x0, x1⟩ := two hbox
  clear hI hI1 hbox hw1 hbx
  have hl1 : decide ((xs.length : Int) < 1) = false := decide_eq_false (by omega)
  have hl2 : decide ((xs.length : Int) > 2000) = false := decide_eq_false (by omega)
  have hl1n : decide (xs.length < 1) = false := decide_eq_false (by omega)
  have hl2n : decide (xs.length > 2000) = false := decide_eq_false (by omega)
  have hin : ((i : Nat) : Int) < (s.blocks.length : Int) := by omega
  have hjn : ((j : Nat) : Int) < (B.pages.length : Int) := by omega
  have HS := Aside0.mk hs
  have HBk := Aside0.mk hB
  have HLn := Aside0.mk hl
  have HJ := Aside0.mk hj
  have HIn := Aside0.mk hi
  clear hs hB hi hj hl
  go_enter Try.func31, Try.ntmps31
  go_wp2_with fail
  rw [HW.out, HX.out]
  have hcc := rhas HI1.out (i : Int) (j : Int)
  rw [HS.out] at hcc
  refine hcc.mono ?_
  clear hcc
  rintro ev w2 ⟨rfl, hb⟩
  have HBX2 := Aside0.mk ((hb.block bx (blk_lt HBX.out)).trans HBX.out)
  have HK2 := Aside0.mk ((Kp.of_below HB.out ok).below hb)
  have hI2 := HI1.out.below hb
  obtain ⟨h, cap, cs, pg, r⟩ := hI2
  have HR2 := Aside0.mk r
  obtain ⟨-, ⟨-, c6, -⟩, -⟩ := rten r
  rw [hd] at c6
  clear r hb x0 x1 hd
  have HBAD := Aside0.mk hbad
  clear hbad
  go_upto_region 5 with fail
  refine start_ (n := 10) (S := fun w' => (w'.cell? ⟨bx, 0, none⟩ = some (.int .i64 (i : Int)) ∧ w'.cell? ⟨bx, 1, none⟩ = some (.int .i64 (j : Int))) ∧ w'.cell? ⟨g, 0, none⟩ = some (.slice (some ⟨h, 0, none⟩) s.blocks.length cap) ∧ w'.cell? ⟨h, i * 4, none⟩ = some (.bool true) ∧ w'.cell? ⟨h, i * 4 + 1, none⟩ = some (.int .i64 B.next)) (ds := []) #[false, false, false, false, false, false, false, false, false, false] (by kernel_rfl) rfl rfl (rplaceHeld HR2.out HBX2.out HBk.out HBAD.out rfl (below_drew (Below.refl _ _))) (fun hHeld => ?_)
  refine with_tabW reg_rprogram_5.tab reg_rprogram_5.bits (fun HT_ HW_ => ?_)
  refine pure_ (i := 0) (N := (some 31)) (v := ?_) (a' := ?_) #[true, false, false, false, false, false, false, false, false, false] rfl rfl (any_of HT_.out (by kernel_rfl)) (fun _ _ _ h => h) (Or.inl ⟨by rfl, ?_⟩) ?_ ?_
  rotate_left
  · intro w'
    go_simp
    first | done | with_reducible rfl
  rotate_left
  · simp only [Act.put, List.setIfInBounds_toArray, List.set_cons_zero, List.set_cons_succ, i64_w, i32_w]
    rfl
  refine pure_ (i := 1) (N := (some 32)) (v := ?_) (a' := ?_) #[true, true, false, false, false, false, false, false, false, false] rfl rfl (any_of HT_.out (by kernel_rfl)) (fun _ _ _ h => h) (Or.inl ⟨by rfl, ?_⟩) ?_ ?_
  rotate_left
  · intro w'
    go_simp
    first | done | with_reducible rfl
  rotate_left
  · simp only [Act.put, List.setIfInBounds_toArray, List.set_cons_zero, List.set_cons_succ, i64_w, i32_w]
    rfl
  refine pure_ (i := 2) (N := (some 33)) (v := ?_) (a' := ?_) #[true, true, true, false, false, false, false, false, false, false] rfl rfl (any_of HT_.out (by kernel_rfl)) (fun _ _ _ h => h) (Or.inl ⟨by rfl, ?_⟩) ?_ ?_
  rotate_left
  · intro w'
    go_simp
    first | done | with_reducible rfl
  rotate_left
  · simp only [Act.put, List.setIfInBounds_toArray, List.set_cons_zero, List.set_cons_succ, i64_w, i32_w]
    rfl
  refine take_ (i := 3) (N := (some 34)) (v := ?_) (a' := ?_) #[true, true, true, true, false, false, false, false, false, false] rfl rfl (take_ofW HT_.out HW_.out (by kernel_rfl)) (fun _ _ _ h => h) (Or.inl ⟨by rfl, ?_⟩) hHeld ?_ ?_
  rotate_left
  · rintro w' ⟨⟨s0, s1⟩, s2, s3, s4⟩
    go_simp
    first | done | with_reducible rfl
  rotate_left
  · simp only [Act.put, List.setIfInBounds_toArray, List.set_cons_zero, List.set_cons_succ, i64_w, i32_w]
    rfl
  refine pure_ (i := 4) (N := (some 35)) (v := ?_) (a' := ?_) #[true, true, true, true, true, false, false, false, false, false] rfl rfl (any_of HT_.out (by kernel_rfl)) (fun _ _ _ h => h) (Or.inl ⟨by rfl, ?_⟩) ?_ ?_
  rotate_left
  · intro w'
    go_simp
    first | done | with_reducible rfl
  rotate_left
  · simp only [Act.put, List.setIfInBounds_toArray, List.set_cons_zero, List.set_cons_succ, i64_w, i32_w]
    rfl
  refine take_ (i := 5) (N := (some 36)) (v := ?_) (a' := ?_) #[true, true, true, true, true, true, false, false, false, false] rfl rfl (take_ofW HT_.out HW_.out (by kernel_rfl)) (fun _ _ _ h => h) (Or.inl ⟨by rfl, ?_⟩) hHeld ?_ ?_
  rotate_left
  · rintro w' ⟨⟨s0, s1⟩, s2, s3, s4⟩
    go_simp
    first | done | with_reducible rfl
  rotate_left
  · simp only [Act.put, List.setIfInBounds_toArray, List.set_cons_zero, List.set_cons_succ, i64_w, i32_w]
    rfl
  refine pure_ (i := 6) (N := (some 37)) (v := ?_) (a' := ?_) #[true, true, true, true, true, true, true, false, false, false] rfl rfl (any_of HT_.out (by kernel_rfl)) (fun _ _ _ h => h) (Or.inl ⟨by rfl, ?_⟩) ?_ ?_
  rotate_left
  · intro w'
    go_simp
    first | done | with_reducible rfl
  rotate_left
  · simp only [Act.put, List.setIfInBounds_toArray, List.set_cons_zero, List.set_cons_succ, i64_w, i32_w]
    rfl
  refine pure_ (i := 7) (N := (some 38)) (v := ?_) (a' := ?_) #[true, true, true, true, true, true, true, true, false, false] rfl rfl (any_of HT_.out (by kernel_rfl)) (fun _ _ _ h => h) (Or.inl ⟨by rfl, ?_⟩) ?_ ?_
  rotate_left
  · intro w'
    go_simp
    first | done | with_reducible rfl
  rotate_left
  · simp only [Act.put, List.setIfInBounds_toArray, List.set_cons_zero, List.set_cons_succ, i64_w, i32_w]
    rfl
  refine take_ (i := 8) (N := (some 39)) (v := ?_) (a' := ?_) #[true, true, true, true, true, true, true, true, true, false] rfl rfl (take_ofW HT_.out HW_.out (by kernel_rfl)) (fun _ _ _ h => h) (Or.inl ⟨by rfl, ?_⟩) hHeld ?_ ?_
  rotate_left
  · rintro w' ⟨⟨s0, s1⟩, s2, s3, s4⟩
    go_simp
    first | done | with_reducible rfl
  rotate_left
  · simp only [Act.put, List.setIfInBounds_toArray, List.set_cons_zero, List.set_cons_succ, i64_w, i32_w]
    rfl
  refine pure_ (i := 9) (N := (some 30)) (v := ?_) (a' := ?_) #[true, true, true, true, true, true, true, true, true, true] rfl rfl (any_of HT_.out (by kernel_rfl)) (fun _ _ _ h => h) (Or.inl ⟨by rfl, ?_⟩) ?_ ?_
  rotate_left
  · intro w'
    go_simp
    first | done | with_reducible rfl
  rotate_left
  · simp only [Act.put, List.setIfInBounds_toArray, List.set_cons_zero, List.set_cons_succ, i64_w, i32_w]
    rfl
  refine done_ (done_of HT_.out (by kernel_rfl)) ?_
  obtain ⟨w3, hw3⟩ : ∃ w3, w2.drew = w3 := ⟨_, rfl⟩
  have hb3 : Below w2.heap.size w2 w3 := by rw [← hw3]; exact below_drew (Below.refl _ _)
  have HR3 := Aside0.mk (HR2.out.below hb3)
  have HK3 := Aside0.mk (HK2.out.below hb3)
  have HBX3 := Aside0.mk ((hb3.block bx (blk_lt HBX2.out)).trans HBX2.out)
  rw [hw3]
  clear hw3 hb3 HR2 HK2 HBX2 hHeld HT_ HW_
  go_wp2_with fail
  go_ret
  exact ⟨rfl, ⟨_, _, _, _, HR3.out⟩, HK3.out⟩
set_option maxHeartbeats 8000000 in
set_option maxRecDepth 100000 in
theorem rprog_order {w : World} {base : Nat} {ok : Nat → Prop} {g : Nat} {s : Chp} (hI : IsRef w base ok g s) (i j : Nat) (B : Blk) (A : Option Addr) (c : Nat) (xs : List Int) (hs : spotB s (i : Int) (j : Int) = true) (hB : s.blocks[i]? = some B) (hi : i < s.blocks.length) (hj : j < B.pages.length) (hl : 1 ≤ xs.length ∧ xs.length ≤ 2000) (hd : s.down = false) (hbad : B.bad = false) (hn : ((j : Nat) : Int) ≠ B.next) :
    Calls Try.prog 31 #[.pointer (some ⟨g, 0, none⟩), .agg #[.int .i64 (i : Int), .int .i64 (j : Int)], .slice A xs.length c] w fun e w' => e = .returned (.int .i64 4) ∧ RNow w base ok g s w' := by
  have hne : (((j : Nat) : Int) != B.next) = true := by simpa using hn
  clear hn
  have HB := Aside0.mk (below_alloc (Below.refl _ w) (.cells #[.int .i64 (i : Int), .int .i64 (j : Int)] 29))
  have hI1 := hI.below HB.out
  obtain ⟨w1, hw1⟩ : ∃ w1, w.alloc (.cells #[.int .i64 (i : Int), .int .i64 (j : Int)] 29) = w1 := ⟨_, rfl⟩
  obtain ⟨bx, hbx⟩ : ∃ bx, w.heap.size = bx := ⟨_, rfl⟩
  have hbox : w1.heap[bx]? = some (.cells #[.int .i64 (i : Int), .int .i64 (j : Int)] 29 (0, 0)) := by rw [← hw1, ← hbx]; simpa using heap_alloc_new w (.cells #[.int .i64 (i : Int), .int .i64 (j : Int)] 29)
  rw [hw1] at HB hI1
  have HI1 := Aside0.mk hI1
  have HI := Aside0.mk hI
  have HBX := Aside0.mk hbox
  have HW := Aside0.mk hw1
  have HX := Aside0.mk hbx
  obtain ⟨x0, x1⟩ := two hbox
  clear hI hI1 hbox hw1 hbx
  have hl1 : decide ((xs.length : Int) < 1) = false := decide_eq_false (by omega)
  have hl2 : decide ((xs.length : Int) > 2000) = false := decide_eq_false (by omega)
  have hl1n : decide (xs.length < 1) = false := decide_eq_false (by omega)
  have hl2n : decide (xs.length > 2000) = false := decide_eq_false (by omega)
  have hin : ((i : Nat) : Int) < (s.blocks.length : Int) := by omega
  have hjn : ((j : Nat) : Int) < (B.pages.length : Int) := by omega
  have HS := Aside0.mk hs
  have HBk := Aside0.mk hB
  have HLn := Aside0.mk hl
  have HJ := Aside0.mk hj
  have HIn := Aside0.mk hi
  clear hs hB hi hj hl
  go_enter Try.func31, Try.ntmps31
  go_wp2_with fail
  rw [HW.out, HX.out]
  have hcc := rhas HI1.out (i : Int) (j : Int)
  rw [HS.out] at hcc
  refine hcc.mono ?_
  clear hcc
  rintro ev w2 ⟨rfl, hb⟩
  have HBX2 := Aside0.mk ((hb.block bx (blk_lt HBX.out)).trans HBX.out)
  have HK2 := Aside0.mk ((Kp.of_below HB.out ok).below hb)
  have hI2 := HI1.out.below hb
  obtain ⟨h, cap, cs, pg, r⟩ := hI2
  have HR2 := Aside0.mk r
  obtain ⟨-, ⟨-, c6, -⟩, -⟩ := rten r
  rw [hd] at c6
  clear r hb x0 x1 hd
  have HBAD := Aside0.mk hbad
  clear hbad
  go_upto_region 5 with fail
  refine start_ (n := 10) (S := fun w' => (w'.cell? ⟨bx, 0, none⟩ = some (.int .i64 (i : Int)) ∧ w'.cell? ⟨bx, 1, none⟩ = some (.int .i64 (j : Int))) ∧ w'.cell? ⟨g, 0, none⟩ = some (.slice (some ⟨h, 0, none⟩) s.blocks.length cap) ∧ w'.cell? ⟨h, i * 4, none⟩ = some (.bool false) ∧ w'.cell? ⟨h, i * 4 + 1, none⟩ = some (.int .i64 B.next)) (ds := []) #[false, false, false, false, false, false, false, false, false, false] (by kernel_rfl) rfl rfl (rplaceHeld HR2.out HBX2.out HBk.out HBAD.out rfl (below_drew (Below.refl _ _))) (fun hHeld => ?_)
  refine with_tabW reg_rprogram_5.tab reg_rprogram_5.bits (fun HT_ HW_ => ?_)
  refine pure_ (i := 0) (N := (some 31)) (v := ?_) (a' := ?_) #[true, false, false, false, false, false, false, false, false, false] rfl rfl (any_of HT_.out (by kernel_rfl)) (fun _ _ _ h => h) (Or.inl ⟨by rfl, ?_⟩) ?_ ?_
  rotate_left
  · intro w'
    go_simp
    first | done | with_reducible rfl
  rotate_left
  · simp only [Act.put, List.setIfInBounds_toArray, List.set_cons_zero, List.set_cons_succ, i64_w, i32_w]
    rfl
  refine pure_ (i := 1) (N := (some 32)) (v := ?_) (a' := ?_) #[true, true, false, false, false, false, false, false, false, false] rfl rfl (any_of HT_.out (by kernel_rfl)) (fun _ _ _ h => h) (Or.inl ⟨by rfl, ?_⟩) ?_ ?_
  rotate_left
  · intro w'
    go_simp
    first | done | with_reducible rfl
  rotate_left
  · simp only [Act.put, List.setIfInBounds_toArray, List.set_cons_zero, List.set_cons_succ, i64_w, i32_w]
    rfl
  refine pure_ (i := 2) (N := (some 33)) (v := ?_) (a' := ?_) #[true, true, true, false, false, false, false, false, false, false] rfl rfl (any_of HT_.out (by kernel_rfl)) (fun _ _ _ h => h) (Or.inl ⟨by rfl, ?_⟩) ?_ ?_
  rotate_left
  · intro w'
    go_simp
    first | done | with_reducible rfl
  rotate_left
  · simp only [Act.put, List.setIfInBounds_toArray, List.set_cons_zero, List.set_cons_succ, i64_w, i32_w]
    rfl
  refine take_ (i := 3) (N := (some 34)) (v := ?_) (a' := ?_) #[true, true, true, true, false, false, false, false, false, false] rfl rfl (take_ofW HT_.out HW_.out (by kernel_rfl)) (fun _ _ _ h => h) (Or.inl ⟨by rfl, ?_⟩) hHeld ?_ ?_
  rotate_left
  · rintro w' ⟨⟨s0, s1⟩, s2, s3, s4⟩
    go_simp
    first | done | with_reducible rfl
  rotate_left
  · simp only [Act.put, List.setIfInBounds_toArray, List.set_cons_zero, List.set_cons_succ, i64_w, i32_w]
    rfl
  refine pure_ (i := 4) (N := (some 35)) (v := ?_) (a' := ?_) #[true, true, true, true, true, false, false, false, false, false] rfl rfl (any_of HT_.out (by kernel_rfl)) (fun _ _ _ h => h) (Or.inl ⟨by rfl, ?_⟩) ?_ ?_
  rotate_left
  · intro w'
    go_simp
    first | done | with_reducible rfl
  rotate_left
  · simp only [Act.put, List.setIfInBounds_toArray, List.set_cons_zero, List.set_cons_succ, i64_w, i32_w]
    rfl
  refine take_ (i := 5) (N := (some 36)) (v := ?_) (a' := ?_) #[true, true, true, true, true, true, false, false, false, false] rfl rfl (take_ofW HT_.out HW_.out (by kernel_rfl)) (fun _ _ _ h => h) (Or.inl ⟨by rfl, ?_⟩) hHeld ?_ ?_
  rotate_left
  · rintro w' ⟨⟨s0, s1⟩, s2, s3, s4⟩
    go_simp
    first | done | with_reducible rfl
  rotate_left
  · simp only [Act.put, List.setIfInBounds_toArray, List.set_cons_zero, List.set_cons_succ, i64_w, i32_w]
    rfl
  refine pure_ (i := 6) (N := (some 37)) (v := ?_) (a' := ?_) #[true, true, true, true, true, true, true, false, false, false] rfl rfl (any_of HT_.out (by kernel_rfl)) (fun _ _ _ h => h) (Or.inl ⟨by rfl, ?_⟩) ?_ ?_
  rotate_left
  · intro w'
    go_simp
    first | done | with_reducible rfl
  rotate_left
  · simp only [Act.put, List.setIfInBounds_toArray, List.set_cons_zero, List.set_cons_succ, i64_w, i32_w]
    rfl
  refine pure_ (i := 7) (N := (some 38)) (v := ?_) (a' := ?_) #[true, true, true, true, true, true, true, true, false, false] rfl rfl (any_of HT_.out (by kernel_rfl)) (fun _ _ _ h => h) (Or.inl ⟨by rfl, ?_⟩) ?_ ?_
  rotate_left
  · intro w'
    go_simp
    first | done | with_reducible rfl
  rotate_left
  · simp only [Act.put, List.setIfInBounds_toArray, List.set_cons_zero, List.set_cons_succ, i64_w, i32_w]
    rfl
  refine take_ (i := 8) (N := (some 39)) (v := ?_) (a' := ?_) #[true, true, true, true, true, true, true, true, true, false] rfl rfl (take_ofW HT_.out HW_.out (by kernel_rfl)) (fun _ _ _ h => h) (Or.inl ⟨by rfl, ?_⟩) hHeld ?_ ?_
  rotate_left
  · rintro w' ⟨⟨s0, s1⟩, s2, s3, s4⟩
    go_simp
    first | done | with_reducible rfl
  rotate_left
  · simp only [Act.put, List.setIfInBounds_toArray, List.set_cons_zero, List.set_cons_succ, i64_w, i32_w]
    rfl
  refine pure_ (i := 9) (N := (some 30)) (v := ?_) (a' := ?_) #[true, true, true, true, true, true, true, true, true, true] rfl rfl (any_of HT_.out (by kernel_rfl)) (fun _ _ _ h => h) (Or.inl ⟨by rfl, ?_⟩) ?_ ?_
  rotate_left
  · intro w'
    go_simp
    first | done | with_reducible rfl
  rotate_left
  · simp only [Act.put, List.setIfInBounds_toArray, List.set_cons_zero, List.set_cons_succ, i64_w, i32_w]
    rfl
  refine done_ (done_of HT_.out (by kernel_rfl)) ?_
  obtain ⟨w3, hw3⟩ : ∃ w3, w2.drew = w3 := ⟨_, rfl⟩
  have hb3 : Below w2.heap.size w2 w3 := by rw [← hw3]; exact below_drew (Below.refl _ _)
  have HR3 := Aside0.mk (HR2.out.below hb3)
  have HK3 := Aside0.mk (HK2.out.below hb3)
  have HBX3 := Aside0.mk ((hb3.block bx (blk_lt HBX2.out)).trans HBX2.out)
  rw [hw3]
  clear hw3 hb3 HR2 HK2 HBX2 hHeld HT_ HW_
  go_upto_region 7 with fail
  refine start_ (n := 13) (S := fun w' => (w'.cell? ⟨bx, 0, none⟩ = some (.int .i64 (i : Int)) ∧ w'.cell? ⟨bx, 1, none⟩ = some (.int .i64 (j : Int))) ∧ w'.cell? ⟨g, 0, none⟩ = some (.slice (some ⟨h, 0, none⟩) s.blocks.length cap) ∧ w'.cell? ⟨h, i * 4, none⟩ = some (.bool false) ∧ w'.cell? ⟨h, i * 4 + 1, none⟩ = some (.int .i64 B.next)) (ds := []) #[false, false, false, false, false, false, false, false, false, false, false, false, false] (by kernel_rfl) rfl rfl (rplaceHeld HR3.out HBX3.out HBk.out HBAD.out rfl (below_drew (Below.refl _ _))) (fun hHeld => ?_)
  refine with_tabW reg_rprogram_7.tab reg_rprogram_7.bits (fun HT_ HW_ => ?_)
  refine pure_ (i := 0) (N := (some 41)) (v := ?_) (a' := ?_) #[true, false, false, false, false, false, false, false, false, false, false, false, false] rfl rfl (any_of HT_.out (by kernel_rfl)) (fun _ _ _ h => h) (Or.inl ⟨by rfl, ?_⟩) ?_ ?_
  rotate_left
  · intro w'
    go_simp
    first | done | with_reducible rfl
  rotate_left
  · simp only [Act.put, List.setIfInBounds_toArray, List.set_cons_zero, List.set_cons_succ, i64_w, i32_w]
    rfl
  refine take_ (i := 1) (N := (some 42)) (v := ?_) (a' := ?_) #[true, true, false, false, false, false, false, false, false, false, false, false, false] rfl rfl (take_ofW HT_.out HW_.out (by kernel_rfl)) (fun _ _ _ h => h) (Or.inl ⟨by rfl, ?_⟩) hHeld ?_ ?_
  rotate_left
  · rintro w' ⟨⟨s0, s1⟩, s2, s3, s4⟩
    go_simp
    first | done | with_reducible rfl
  rotate_left
  · simp only [Act.put, List.setIfInBounds_toArray, List.set_cons_zero, List.set_cons_succ, i64_w, i32_w]
    rfl
  refine pure_ (i := 2) (N := (some 43)) (v := ?_) (a' := ?_) #[true, true, true, false, false, false, false, false, false, false, false, false, false] rfl rfl (any_of HT_.out (by kernel_rfl)) (fun _ _ _ h => h) (Or.inl ⟨by rfl, ?_⟩) ?_ ?_
  rotate_left
  · intro w'
    go_simp
    first | done | with_reducible rfl
  rotate_left
  · simp only [Act.put, List.setIfInBounds_toArray, List.set_cons_zero, List.set_cons_succ, i64_w, i32_w]
    rfl
  refine pure_ (i := 3) (N := (some 44)) (v := ?_) (a' := ?_) #[true, true, true, true, false, false, false, false, false, false, false, false, false] rfl rfl (any_of HT_.out (by kernel_rfl)) (fun _ _ _ h => h) (Or.inl ⟨by rfl, ?_⟩) ?_ ?_
  rotate_left
  · intro w'
    go_simp
    first | done | with_reducible rfl
  rotate_left
  · simp only [Act.put, List.setIfInBounds_toArray, List.set_cons_zero, List.set_cons_succ, i64_w, i32_w]
    rfl
  refine pure_ (i := 4) (N := (some 45)) (v := ?_) (a' := ?_) #[true, true, true, true, true, false, false, false, false, false, false, false, false] rfl rfl (any_of HT_.out (by kernel_rfl)) (fun _ _ _ h => h) (Or.inl ⟨by rfl, ?_⟩) ?_ ?_
  rotate_left
  · intro w'
    go_simp
    first | done | with_reducible rfl
  rotate_left
  · simp only [Act.put, List.setIfInBounds_toArray, List.set_cons_zero, List.set_cons_succ, i64_w, i32_w]
    rfl
  refine take_ (i := 5) (N := (some 46)) (v := ?_) (a' := ?_) #[true, true, true, true, true, true, false, false, false, false, false, false, false] rfl rfl (take_ofW HT_.out HW_.out (by kernel_rfl)) (fun _ _ _ h => h) (Or.inl ⟨by rfl, ?_⟩) hHeld ?_ ?_
  rotate_left
  · rintro w' ⟨⟨s0, s1⟩, s2, s3, s4⟩
    go_simp
    first | done | with_reducible rfl
  rotate_left
  · simp only [Act.put, List.setIfInBounds_toArray, List.set_cons_zero, List.set_cons_succ, i64_w, i32_w]
    rfl
  refine pure_ (i := 6) (N := (some 47)) (v := ?_) (a' := ?_) #[true, true, true, true, true, true, true, false, false, false, false, false, false] rfl rfl (any_of HT_.out (by kernel_rfl)) (fun _ _ _ h => h) (Or.inl ⟨by rfl, ?_⟩) ?_ ?_
  rotate_left
  · intro w'
    go_simp
    first | done | with_reducible rfl
  rotate_left
  · simp only [Act.put, List.setIfInBounds_toArray, List.set_cons_zero, List.set_cons_succ, i64_w, i32_w]
    rfl
  refine take_ (i := 7) (N := (some 48)) (v := ?_) (a' := ?_) #[true, true, true, true, true, true, true, true, false, false, false, false, false] rfl rfl (take_ofW HT_.out HW_.out (by kernel_rfl)) (fun _ _ _ h => h) (Or.inl ⟨by rfl, ?_⟩) hHeld ?_ ?_
  rotate_left
  · rintro w' ⟨⟨s0, s1⟩, s2, s3, s4⟩
    go_simp
    first | done | with_reducible rfl
  rotate_left
  · simp only [Act.put, List.setIfInBounds_toArray, List.set_cons_zero, List.set_cons_succ, i64_w, i32_w]
    rfl
  refine pure_ (i := 8) (N := (some 49)) (v := ?_) (a' := ?_) #[true, true, true, true, true, true, true, true, true, false, false, false, false] rfl rfl (any_of HT_.out (by kernel_rfl)) (fun _ _ _ h => h) (Or.inl ⟨by rfl, ?_⟩) ?_ ?_
  rotate_left
  · intro w'
    go_simp
    first | done | with_reducible rfl
  rotate_left
  · simp only [Act.put, List.setIfInBounds_toArray, List.set_cons_zero, List.set_cons_succ, i64_w, i32_w]
    rfl
  refine pure_ (i := 9) (N := (some 50)) (v := ?_) (a' := ?_) #[true, true, true, true, true, true, true, true, true, true, false, false, false] rfl rfl (any_of HT_.out (by kernel_rfl)) (fun _ _ _ h => h) (Or.inl ⟨by rfl, ?_⟩) ?_ ?_
  rotate_left
  · intro w'
    go_simp
    first | done | with_reducible rfl
  rotate_left
  · simp only [Act.put, List.setIfInBounds_toArray, List.set_cons_zero, List.set_cons_succ, i64_w, i32_w]
    rfl
  refine take_ (i := 10) (N := (some 51)) (v := ?_) (a' := ?_) #[true, true, true, true, true, true, true, true, true, true, true, false, false] rfl rfl (take_ofW HT_.out HW_.out (by kernel_rfl)) (fun _ _ _ h => h) (Or.inl ⟨by rfl, ?_⟩) hHeld ?_ ?_
  rotate_left
  · rintro w' ⟨⟨s0, s1⟩, s2, s3, s4⟩
    go_simp
    first | done | with_reducible rfl
  rotate_left
  · simp only [Act.put, List.setIfInBounds_toArray, List.set_cons_zero, List.set_cons_succ, i64_w, i32_w]
    rfl
  refine pure_ (i := 11) (N := (some 52)) (v := ?_) (a' := ?_) #[true, true, true, true, true, true, true, true, true, true, true, true, false] rfl rfl (any_of HT_.out (by kernel_rfl)) (fun _ _ _ h => h) (Or.inl ⟨by rfl, ?_⟩) ?_ ?_
  rotate_left
  · intro w'
    go_simp
    first | done | with_reducible rfl
  rotate_left
  · simp only [Act.put, List.setIfInBounds_toArray, List.set_cons_zero, List.set_cons_succ, i64_w, i32_w]
    rfl
  refine pure_ (i := 12) (N := (some 40)) (v := ?_) (a' := ?_) #[true, true, true, true, true, true, true, true, true, true, true, true, true] rfl rfl (any_of HT_.out (by kernel_rfl)) (fun _ _ _ h => h) (Or.inl ⟨by rfl, ?_⟩) ?_ ?_
  rotate_left
  · intro w'
    go_simp
    first | done | with_reducible rfl
  rotate_left
  · simp only [Act.put, List.setIfInBounds_toArray, List.set_cons_zero, List.set_cons_succ, i64_w, i32_w]
    rfl
  refine done_ (done_of HT_.out (by kernel_rfl)) ?_
  obtain ⟨w4, hw4⟩ : ∃ w4, w3.drew = w4 := ⟨_, rfl⟩
  have hb4 : Below w3.heap.size w3 w4 := by rw [← hw4]; exact below_drew (Below.refl _ _)
  have HR4 := Aside0.mk (HR3.out.below hb4)
  have HK4 := Aside0.mk (HK3.out.below hb4)
  have HBX4 := Aside0.mk ((hb4.block bx (blk_lt HBX3.out)).trans HBX3.out)
  rw [hw4]
  clear hw4 hb4 HR3 HK3 HBX3 hHeld HT_ HW_
  go_wp2_with fail
  go_ret
  exact ⟨rfl, ⟨_, _, _, _, HR4.out⟩, HK4.out⟩
def reg_rprogram_9.T : Bool × List (List Nat × List Nat) := (true, [([], []), ([0], [0]), ([1], [1]), ([2], [2]), ([], []), ([4], [4]), ([3, 5], [3, 5]), ([6, 0, 1, 2, 3, 4, 5, 6], [6])])
def reg_rprogram_9.B : List Nat := [0, 1, 3, 7, 0, 16, 63, 127]
theorem reg_rprogram_9.tab : rtab .any (opsOf Try.f31 9) = reg_rprogram_9.T := by kernel_rfl
theorem reg_rprogram_9.bits : waitsOk reg_rprogram_9.T.2 reg_rprogram_9.B = true := by kernel_rfl
def reg_rprogram_12.T : Bool × List (List Nat × List Nat) := (true, [([], []), ([0], [0]), ([1], [1]), ([2], [2]), ([], []), ([4], [4]), ([5], [5]), ([6, 3], [6]), ([3, 7, 0, 1, 2, 3], [3]), ([7, 8, 0, 1, 2, 3, 4, 5, 6, 7, 8], [7])])
def reg_rprogram_12.B : List Nat := [0, 1, 3, 7, 0, 16, 48, 127, 255, 511]
theorem reg_rprogram_12.tab : rtab .any (opsOf Try.f31 12) = reg_rprogram_12.T := by kernel_rfl
theorem reg_rprogram_12.bits : waitsOk reg_rprogram_12.T.2 reg_rprogram_12.B = true := by kernel_rfl
def reg_rprogram_14.T : Bool × List (List Nat × List Nat) := (true, [([], []), ([0], [0]), ([1], [1]), ([2], [2]), ([], []), ([4], [4]), ([], []), ([], []), ([7], [7]), ([8], [8]), ([9], [9]), ([], []), ([11], [11]), ([10, 12], [10, 12]), ([6, 13], [6, 13]), ([14], [14]), ([3, 5, 0, 1, 2, 3, 4, 5, 6, 7, 8, 9, 10, 11, 12, 13, 14, 15], [3, 5]), ([16, 15, 15, 0, 1, 2, 3, 4, 5, 6, 7, 8, 9, 10, 11, 12, 13, 14, 15], [15, 16])])
def reg_rprogram_14.B : List Nat := [0, 1, 3, 7, 0, 16, 0, 0, 128, 384, 896, 0, 2048, 8064, 16320, 32704, 65535, 131071]
theorem reg_rprogram_14.tab : rtab .any (opsOf Try.f31 14) = reg_rprogram_14.T := by kernel_rfl
theorem reg_rprogram_14.bits : waitsOk reg_rprogram_14.T.2 reg_rprogram_14.B = true := by kernel_rfl
def reg_rprogram_18.T : Bool × List (List Nat × List Nat) := (true, [([], []), ([0], [0]), ([1], [1]), ([2], [2]), ([], []), ([4], [4]), ([], []), ([], []), ([7], [7]), ([8], [8]), ([6, 9], [6, 9]), ([10], [10]), ([3, 5, 0, 1, 2, 3, 4, 5, 6, 7, 8, 9, 10, 11], [3, 5]), ([12, 11, 11, 0, 1, 2, 3, 4, 5, 6, 7, 8, 9, 10, 11], [11, 12])])
def reg_rprogram_18.B : List Nat := [0, 1, 3, 7, 0, 16, 0, 0, 128, 384, 960, 1984, 4095, 8191]
theorem reg_rprogram_18.tab : rtab .any (opsOf Try.f31 18) = reg_rprogram_18.T := by kernel_rfl
theorem reg_rprogram_18.bits : waitsOk reg_rprogram_18.T.2 reg_rprogram_18.B = true := by kernel_rfl
def reg_rprogram_21.T : Bool × List (List Nat × List Nat) := (true, [([], []), ([0], [0]), ([1], [1]), ([2], [2]), ([], []), ([4], [4]), ([], []), ([6], [6]), ([3, 5, 0, 1, 2, 3, 4, 5, 6, 7], [3, 5]), ([8, 7, 7, 0, 1, 2, 3, 4, 5, 6, 7], [7, 8])])
def reg_rprogram_21.B : List Nat := [0, 1, 3, 7, 0, 16, 0, 64, 255, 511]
theorem reg_rprogram_21.tab : rtab .any (opsOf Try.f31 21) = reg_rprogram_21.T := by kernel_rfl
theorem reg_rprogram_21.bits : waitsOk reg_rprogram_21.T.2 reg_rprogram_21.B = true := by kernel_rfl
set_option maxHeartbeats 8000000 in
set_option maxRecDepth 100000 in
theorem rprog_go {w : World} {base : Nat} {ok : Nat → Prop} {g : Nat} {s : Chp} (hI : IsRef w base ok g s) (i j : Nat) (B : Blk) (A : Option Addr) (c : Nat) (xs : List Int) (hs : spotB s (i : Int) (j : Int) = true) (hB : s.blocks[i]? = some B) (hi : i < s.blocks.length) (hj : j < B.pages.length) (hl : 1 ≤ xs.length ∧ xs.length ≤ 2000) (hd : s.down = false) (hbad : B.bad = false) (hn : ((j : Nat) : Int) = B.next) (hRA : Kd.C (Kd.int .u8) w A xs.length xs) (hcl : xs.length ≤ c) (hdj : ∀ ad, A = some ad → ¬ ok ad.block) (hF : Fr ok w) :
    Calls Try.prog 31 #[.pointer (some ⟨g, 0, none⟩), .agg #[.int .i64 (i : Int), .int .i64 (j : Int)], .slice A xs.length c] w fun e w' => e = .returned (.int .i64 (rgoS s i j xs).2) ∧ RNow w base ok g (rgoS s i j xs).1 w' := by
  have HN := Aside0.mk hn
  have HRA := Aside0.mk hRA
  have HDJ := Aside0.mk hdj
  have HFr := Aside0.mk hF
  have HCL := Aside0.mk hcl
  clear hn hRA hdj hF hcl
  have HB := Aside0.mk (below_alloc (Below.refl _ w) (.cells #[.int .i64 (i : Int), .int .i64 (j : Int)] 29))
  have hI1 := hI.below HB.out
  obtain ⟨w1, hw1⟩ : ∃ w1, w.alloc (.cells #[.int .i64 (i : Int), .int .i64 (j : Int)] 29) = w1 := ⟨_, rfl⟩
  obtain ⟨bx, hbx⟩ : ∃ bx, w.heap.size = bx := ⟨_, rfl⟩
  have hbox : w1.heap[bx]? = some (.cells #[.int .i64 (i : Int), .int .i64 (j : Int)] 29 (0, 0)) := by rw [← hw1, ← hbx]; simpa using heap_alloc_new w (.cells #[.int .i64 (i : Int), .int .i64 (j : Int)] 29)
  rw [hw1] at HB hI1
  have HI1 := Aside0.mk hI1
  have HI := Aside0.mk hI
  have HBX := Aside0.mk hbox
  have HW := Aside0.mk hw1
  have HX := Aside0.mk hbx
  obtain ⟨x0, x1⟩ := two hbox
  clear hI hI1 hbox hw1 hbx
  have hl1 : decide ((xs.length : Int) < 1) = false := decide_eq_false (by omega)
  have hl2 : decide ((xs.length : Int) > 2000) = false := decide_eq_false (by omega)
  have hl1n : decide (xs.length < 1) = false := decide_eq_false (by omega)
  have hl2n : decide (xs.length > 2000) = false := decide_eq_false (by omega)
  have hin : ((i : Nat) : Int) < (s.blocks.length : Int) := by omega
  have hjn : ((j : Nat) : Int) < (B.pages.length : Int) := by omega
  have HS := Aside0.mk hs
  have HBk := Aside0.mk hB
  have HLn := Aside0.mk hl
  have HJ := Aside0.mk hj
  have HIn := Aside0.mk hi
  clear hs hB hi hj hl
  go_enter Try.func31, Try.ntmps31
  go_wp2_with fail
  rw [HW.out, HX.out]
  have hcc := rhas HI1.out (i : Int) (j : Int)
  rw [HS.out] at hcc
  refine hcc.mono ?_
  clear hcc
  rintro ev w2 ⟨rfl, hb⟩
  have HBX2 := Aside0.mk ((hb.block bx (blk_lt HBX.out)).trans HBX.out)
  have HK2 := Aside0.mk ((Kp.of_below HB.out ok).below hb)
  have hI2 := HI1.out.below hb
  obtain ⟨h, cap, cs, pg, r⟩ := hI2
  have HR2 := Aside0.mk r
  obtain ⟨-, ⟨-, c6, -⟩, -⟩ := rten r
  rw [hd] at c6
  clear r hb x0 x1 hd
  have HBAD := Aside0.mk hbad
  clear hbad
  go_upto_region 5 with fail
  refine start_ (n := 10) (S := fun w' => (w'.cell? ⟨bx, 0, none⟩ = some (.int .i64 (i : Int)) ∧ w'.cell? ⟨bx, 1, none⟩ = some (.int .i64 (j : Int))) ∧ w'.cell? ⟨g, 0, none⟩ = some (.slice (some ⟨h, 0, none⟩) s.blocks.length cap) ∧ w'.cell? ⟨h, i * 4, none⟩ = some (.bool false) ∧ w'.cell? ⟨h, i * 4 + 1, none⟩ = some (.int .i64 B.next)) (ds := []) #[false, false, false, false, false, false, false, false, false, false] (by kernel_rfl) rfl rfl (rplaceHeld HR2.out HBX2.out HBk.out HBAD.out rfl (below_drew (Below.refl _ _))) (fun hHeld => ?_)
  refine with_tabW reg_rprogram_5.tab reg_rprogram_5.bits (fun HT_ HW_ => ?_)
  refine pure_ (i := 0) (N := (some 31)) (v := ?_) (a' := ?_) #[true, false, false, false, false, false, false, false, false, false] rfl rfl (any_of HT_.out (by kernel_rfl)) (fun _ _ _ h => h) (Or.inl ⟨by rfl, ?_⟩) ?_ ?_
  rotate_left
  · intro w'
    go_simp
    first | done | with_reducible rfl
  rotate_left
  · simp only [Act.put, List.setIfInBounds_toArray, List.set_cons_zero, List.set_cons_succ, i64_w, i32_w]
    rfl
  refine pure_ (i := 1) (N := (some 32)) (v := ?_) (a' := ?_) #[true, true, false, false, false, false, false, false, false, false] rfl rfl (any_of HT_.out (by kernel_rfl)) (fun _ _ _ h => h) (Or.inl ⟨by rfl, ?_⟩) ?_ ?_
  rotate_left
  · intro w'
    go_simp
    first | done | with_reducible rfl
  rotate_left
  · simp only [Act.put, List.setIfInBounds_toArray, List.set_cons_zero, List.set_cons_succ, i64_w, i32_w]
    rfl
  refine pure_ (i := 2) (N := (some 33)) (v := ?_) (a' := ?_) #[true, true, true, false, false, false, false, false, false, false] rfl rfl (any_of HT_.out (by kernel_rfl)) (fun _ _ _ h => h) (Or.inl ⟨by rfl, ?_⟩) ?_ ?_
  rotate_left
  · intro w'
    go_simp
    first | done | with_reducible rfl
  rotate_left
  · simp only [Act.put, List.setIfInBounds_toArray, List.set_cons_zero, List.set_cons_succ, i64_w, i32_w]
    rfl
  refine take_ (i := 3) (N := (some 34)) (v := ?_) (a' := ?_) #[true, true, true, true, false, false, false, false, false, false] rfl rfl (take_ofW HT_.out HW_.out (by kernel_rfl)) (fun _ _ _ h => h) (Or.inl ⟨by rfl, ?_⟩) hHeld ?_ ?_
  rotate_left
  · rintro w' ⟨⟨s0, s1⟩, s2, s3, s4⟩
    go_simp
    first | done | with_reducible rfl
  rotate_left
  · simp only [Act.put, List.setIfInBounds_toArray, List.set_cons_zero, List.set_cons_succ, i64_w, i32_w]
    rfl
  refine pure_ (i := 4) (N := (some 35)) (v := ?_) (a' := ?_) #[true, true, true, true, true, false, false, false, false, false] rfl rfl (any_of HT_.out (by kernel_rfl)) (fun _ _ _ h => h) (Or.inl ⟨by rfl, ?_⟩) ?_ ?_
  rotate_left
  · intro w'
    go_simp
    first | done | with_reducible rfl
  rotate_left
  · simp only [Act.put, List.setIfInBounds_toArray, List.set_cons_zero, List.set_cons_succ, i64_w, i32_w]
    rfl
  refine take_ (i := 5) (N := (some 36)) (v := ?_) (a' := ?_) #[true, true, true, true, true, true, false, false, false, false] rfl rfl (take_ofW HT_.out HW_.out (by kernel_rfl)) (fun _ _ _ h => h) (Or.inl ⟨by rfl, ?_⟩) hHeld ?_ ?_
  rotate_left
  · rintro w' ⟨⟨s0, s1⟩, s2, s3, s4⟩
    go_simp
    first | done | with_reducible rfl
  rotate_left
  · simp only [Act.put, List.setIfInBounds_toArray, List.set_cons_zero, List.set_cons_succ, i64_w, i32_w]
    rfl
  refine pure_ (i := 6) (N := (some 37)) (v := ?_) (a' := ?_) #[true, true, true, true, true, true, true, false, false, false] rfl rfl (any_of HT_.out (by kernel_rfl)) (fun _ _ _ h => h) (Or.inl ⟨by rfl, ?_⟩) ?_ ?_
  rotate_left
  · intro w'
    go_simp
    first | done | with_reducible rfl
  rotate_left
  · simp only [Act.put, List.setIfInBounds_toArray, List.set_cons_zero, List.set_cons_succ, i64_w, i32_w]
    rfl
  refine pure_ (i := 7) (N := (some 38)) (v := ?_) (a' := ?_) #[true, true, true, true, true, true, true, true, false, false] rfl rfl (any_of HT_.out (by kernel_rfl)) (fun _ _ _ h => h) (Or.inl ⟨by rfl, ?_⟩) ?_ ?_
  rotate_left
  · intro w'
    go_simp
    first | done | with_reducible rfl
  rotate_left
  · simp only [Act.put, List.setIfInBounds_toArray, List.set_cons_zero, List.set_cons_succ, i64_w, i32_w]
    rfl
  refine take_ (i := 8) (N := (some 39)) (v := ?_) (a' := ?_) #[true, true, true, true, true, true, true, true, true, false] rfl rfl (take_ofW HT_.out HW_.out (by kernel_rfl)) (fun _ _ _ h => h) (Or.inl ⟨by rfl, ?_⟩) hHeld ?_ ?_
  rotate_left
  · rintro w' ⟨⟨s0, s1⟩, s2, s3, s4⟩
    go_simp
    first | done | with_reducible rfl
  rotate_left
  · simp only [Act.put, List.setIfInBounds_toArray, List.set_cons_zero, List.set_cons_succ, i64_w, i32_w]
    rfl
  refine pure_ (i := 9) (N := (some 30)) (v := ?_) (a' := ?_) #[true, true, true, true, true, true, true, true, true, true] rfl rfl (any_of HT_.out (by kernel_rfl)) (fun _ _ _ h => h) (Or.inl ⟨by rfl, ?_⟩) ?_ ?_
  rotate_left
  · intro w'
    go_simp
    first | done | with_reducible rfl
  rotate_left
  · simp only [Act.put, List.setIfInBounds_toArray, List.set_cons_zero, List.set_cons_succ, i64_w, i32_w]
    rfl
  refine done_ (done_of HT_.out (by kernel_rfl)) ?_
  obtain ⟨w3, hw3⟩ : ∃ w3, w2.drew = w3 := ⟨_, rfl⟩
  have hb3 : Below w2.heap.size w2 w3 := by rw [← hw3]; exact below_drew (Below.refl _ _)
  have HR3 := Aside0.mk (HR2.out.below hb3)
  have HK3 := Aside0.mk (HK2.out.below hb3)
  have HBX3 := Aside0.mk ((hb3.block bx (blk_lt HBX2.out)).trans HBX2.out)
  rw [hw3]
  clear hw3 hb3 HR2 HK2 HBX2 hHeld HT_ HW_
  go_upto_region 7 with fail
  refine start_ (n := 13) (S := fun w' => (w'.cell? ⟨bx, 0, none⟩ = some (.int .i64 (i : Int)) ∧ w'.cell? ⟨bx, 1, none⟩ = some (.int .i64 (j : Int))) ∧ w'.cell? ⟨g, 0, none⟩ = some (.slice (some ⟨h, 0, none⟩) s.blocks.length cap) ∧ w'.cell? ⟨h, i * 4, none⟩ = some (.bool false) ∧ w'.cell? ⟨h, i * 4 + 1, none⟩ = some (.int .i64 (j : Int))) (ds := []) #[false, false, false, false, false, false, false, false, false, false, false, false, false] (by kernel_rfl) rfl rfl (rplaceHeld HR3.out HBX3.out HBk.out HBAD.out HN.out.symm (below_drew (Below.refl _ _))) (fun hHeld => ?_)
  refine with_tabW reg_rprogram_7.tab reg_rprogram_7.bits (fun HT_ HW_ => ?_)
  refine pure_ (i := 0) (N := (some 41)) (v := ?_) (a' := ?_) #[true, false, false, false, false, false, false, false, false, false, false, false, false] rfl rfl (any_of HT_.out (by kernel_rfl)) (fun _ _ _ h => h) (Or.inl ⟨by rfl, ?_⟩) ?_ ?_
  rotate_left
  · intro w'
    go_simp
    first | done | with_reducible rfl
  rotate_left
  · simp only [Act.put, List.setIfInBounds_toArray, List.set_cons_zero, List.set_cons_succ, i64_w, i32_w]
    rfl
  refine take_ (i := 1) (N := (some 42)) (v := ?_) (a' := ?_) #[true, true, false, false, false, false, false, false, false, false, false, false, false] rfl rfl (take_ofW HT_.out HW_.out (by kernel_rfl)) (fun _ _ _ h => h) (Or.inl ⟨by rfl, ?_⟩) hHeld ?_ ?_
  rotate_left
  · rintro w' ⟨⟨s0, s1⟩, s2, s3, s4⟩
    go_simp
    first | done | with_reducible rfl
  rotate_left
  · simp only [Act.put, List.setIfInBounds_toArray, List.set_cons_zero, List.set_cons_succ, i64_w, i32_w]
    rfl
  refine pure_ (i := 2) (N := (some 43)) (v := ?_) (a' := ?_) #[true, true, true, false, false, false, false, false, false, false, false, false, false] rfl rfl (any_of HT_.out (by kernel_rfl)) (fun _ _ _ h => h) (Or.inl ⟨by rfl, ?_⟩) ?_ ?_
  rotate_left
  · intro w'
    go_simp
    first | done | with_reducible rfl
  rotate_left
  · simp only [Act.put, List.setIfInBounds_toArray, List.set_cons_zero, List.set_cons_succ, i64_w, i32_w]
    rfl
  refine pure_ (i := 3) (N := (some 44)) (v := ?_) (a' := ?_) #[true, true, true, true, false, false, false, false, false, false, false, false, false] rfl rfl (any_of HT_.out (by kernel_rfl)) (fun _ _ _ h => h) (Or.inl ⟨by rfl, ?_⟩) ?_ ?_
  rotate_left
  · intro w'
    go_simp
    first | done | with_reducible rfl
  rotate_left
  · simp only [Act.put, List.setIfInBounds_toArray, List.set_cons_zero, List.set_cons_succ, i64_w, i32_w]
    rfl
  refine pure_ (i := 4) (N := (some 45)) (v := ?_) (a' := ?_) #[true, true, true, true, true, false, false, false, false, false, false, false, false] rfl rfl (any_of HT_.out (by kernel_rfl)) (fun _ _ _ h => h) (Or.inl ⟨by rfl, ?_⟩) ?_ ?_
  rotate_left
  · intro w'
    go_simp
    first | done | with_reducible rfl
  rotate_left
  · simp only [Act.put, List.setIfInBounds_toArray, List.set_cons_zero, List.set_cons_succ, i64_w, i32_w]
    rfl
  refine take_ (i := 5) (N := (some 46)) (v := ?_) (a' := ?_) #[true, true, true, true, true, true, false, false, false, false, false, false, false] rfl rfl (take_ofW HT_.out HW_.out (by kernel_rfl)) (fun _ _ _ h => h) (Or.inl ⟨by rfl, ?_⟩) hHeld ?_ ?_
  rotate_left
  · rintro w' ⟨⟨s0, s1⟩, s2, s3, s4⟩
    go_simp
    first | done | with_reducible rfl
  rotate_left
  · simp only [Act.put, List.setIfInBounds_toArray, List.set_cons_zero, List.set_cons_succ, i64_w, i32_w]
    rfl
  refine pure_ (i := 6) (N := (some 47)) (v := ?_) (a' := ?_) #[true, true, true, true, true, true, true, false, false, false, false, false, false] rfl rfl (any_of HT_.out (by kernel_rfl)) (fun _ _ _ h => h) (Or.inl ⟨by rfl, ?_⟩) ?_ ?_
  rotate_left
  · intro w'
    go_simp
    first | done | with_reducible rfl
  rotate_left
  · simp only [Act.put, List.setIfInBounds_toArray, List.set_cons_zero, List.set_cons_succ, i64_w, i32_w]
    rfl
  refine take_ (i := 7) (N := (some 48)) (v := ?_) (a' := ?_) #[true, true, true, true, true, true, true, true, false, false, false, false, false] rfl rfl (take_ofW HT_.out HW_.out (by kernel_rfl)) (fun _ _ _ h => h) (Or.inl ⟨by rfl, ?_⟩) hHeld ?_ ?_
  rotate_left
  · rintro w' ⟨⟨s0, s1⟩, s2, s3, s4⟩
    go_simp
    first | done | with_reducible rfl
  rotate_left
  · simp only [Act.put, List.setIfInBounds_toArray, List.set_cons_zero, List.set_cons_succ, i64_w, i32_w]
    rfl
  refine pure_ (i := 8) (N := (some 49)) (v := ?_) (a' := ?_) #[true, true, true, true, true, true, true, true, true, false, false, false, false] rfl rfl (any_of HT_.out (by kernel_rfl)) (fun _ _ _ h => h) (Or.inl ⟨by rfl, ?_⟩) ?_ ?_
  rotate_left
  · intro w'
    go_simp
    first | done | with_reducible rfl
  rotate_left
  · simp only [Act.put, List.setIfInBounds_toArray, List.set_cons_zero, List.set_cons_succ, i64_w, i32_w]
    rfl
  refine pure_ (i := 9) (N := (some 50)) (v := ?_) (a' := ?_) #[true, true, true, true, true, true, true, true, true, true, false, false, false] rfl rfl (any_of HT_.out (by kernel_rfl)) (fun _ _ _ h => h) (Or.inl ⟨by rfl, ?_⟩) ?_ ?_
  rotate_left
  · intro w'
    go_simp
    first | done | with_reducible rfl
  rotate_left
  · simp only [Act.put, List.setIfInBounds_toArray, List.set_cons_zero, List.set_cons_succ, i64_w, i32_w]
    rfl
  refine take_ (i := 10) (N := (some 51)) (v := ?_) (a' := ?_) #[true, true, true, true, true, true, true, true, true, true, true, false, false] rfl rfl (take_ofW HT_.out HW_.out (by kernel_rfl)) (fun _ _ _ h => h) (Or.inl ⟨by rfl, ?_⟩) hHeld ?_ ?_
  rotate_left
  · rintro w' ⟨⟨s0, s1⟩, s2, s3, s4⟩
    go_simp
    first | done | with_reducible rfl
  rotate_left
  · simp only [Act.put, List.setIfInBounds_toArray, List.set_cons_zero, List.set_cons_succ, i64_w, i32_w]
    rfl
  refine pure_ (i := 11) (N := (some 52)) (v := ?_) (a' := ?_) #[true, true, true, true, true, true, true, true, true, true, true, true, false] rfl rfl (any_of HT_.out (by kernel_rfl)) (fun _ _ _ h => h) (Or.inl ⟨by rfl, ?_⟩) ?_ ?_
  rotate_left
  · intro w'
    go_simp
    first | done | with_reducible rfl
  rotate_left
  · simp only [Act.put, List.setIfInBounds_toArray, List.set_cons_zero, List.set_cons_succ, i64_w, i32_w]
    rfl
  refine pure_ (i := 12) (N := (some 40)) (v := ?_) (a' := ?_) #[true, true, true, true, true, true, true, true, true, true, true, true, true] rfl rfl (any_of HT_.out (by kernel_rfl)) (fun _ _ _ h => h) (Or.inl ⟨by rfl, ?_⟩) ?_ ?_
  rotate_left
  · intro w'
    go_simp
    first | done | with_reducible rfl
  rotate_left
  · simp only [Act.put, List.setIfInBounds_toArray, List.set_cons_zero, List.set_cons_succ, i64_w, i32_w]
    rfl
  refine done_ (done_of HT_.out (by kernel_rfl)) ?_
  obtain ⟨w4, hw4⟩ : ∃ w4, w3.drew = w4 := ⟨_, rfl⟩
  have hb4 : Below w3.heap.size w3 w4 := by rw [← hw4]; exact below_drew (Below.refl _ _)
  have HR4 := Aside0.mk (HR3.out.below hb4)
  have HK4 := Aside0.mk (HK3.out.below hb4)
  have HBX4 := Aside0.mk ((hb4.block bx (blk_lt HBX3.out)).trans HBX3.out)
  rw [hw4]
  clear hw4 hb4 HR3 HK3 HBX3 hHeld HT_ HW_
  go_upto_region 9 with fail
  refine start_ (n := 8) (S := fun w' => (w'.cell? ⟨bx, 0, none⟩ = some (.int .i64 (i : Int)) ∧ w'.cell? ⟨bx, 1, none⟩ = some (.int .i64 (j : Int))) ∧ w'.cell? ⟨g, 0, none⟩ = some (.slice (some ⟨h, 0, none⟩) s.blocks.length cap) ∧ w'.cell? ⟨h, i * 4, none⟩ = some (.bool false) ∧ w'.cell? ⟨h, i * 4 + 1, none⟩ = some (.int .i64 B.next)) (ds := []) #[false, false, false, false, false, false, false, false] (by kernel_rfl) rfl rfl (rplaceHeld HR4.out HBX4.out HBk.out HBAD.out rfl (below_drew (Below.refl _ _))) (fun hHeld => ?_)
  refine with_tabW reg_rprogram_9.tab reg_rprogram_9.bits (fun HT_ HW_ => ?_)
  refine pure_ (i := 0) (N := (some 53)) (v := ?_) (a' := ?_) #[true, false, false, false, false, false, false, false] rfl rfl (any_of HT_.out (by kernel_rfl)) (fun _ _ _ h => h) (Or.inl ⟨by rfl, ?_⟩) ?_ ?_
  rotate_left
  · intro w'
    go_simp
    first | done | with_reducible rfl
  rotate_left
  · simp only [Act.put, List.setIfInBounds_toArray, List.set_cons_zero, List.set_cons_succ, i64_w, i32_w]
    rfl
  refine pure_ (i := 1) (N := (some 54)) (v := ?_) (a' := ?_) #[true, true, false, false, false, false, false, false] rfl rfl (any_of HT_.out (by kernel_rfl)) (fun _ _ _ h => h) (Or.inl ⟨by rfl, ?_⟩) ?_ ?_
  rotate_left
  · intro w'
    go_simp
    first | done | with_reducible rfl
  rotate_left
  · simp only [Act.put, List.setIfInBounds_toArray, List.set_cons_zero, List.set_cons_succ, i64_w, i32_w]
    rfl
  refine pure_ (i := 2) (N := (some 55)) (v := ?_) (a' := ?_) #[true, true, true, false, false, false, false, false] rfl rfl (any_of HT_.out (by kernel_rfl)) (fun _ _ _ h => h) (Or.inl ⟨by rfl, ?_⟩) ?_ ?_
  rotate_left
  · intro w'
    go_simp
    first | done | with_reducible rfl
  rotate_left
  · simp only [Act.put, List.setIfInBounds_toArray, List.set_cons_zero, List.set_cons_succ, i64_w, i32_w]
    rfl
  refine take_ (i := 3) (N := (some 56)) (v := ?_) (a' := ?_) #[true, true, true, true, false, false, false, false] rfl rfl (take_ofW HT_.out HW_.out (by kernel_rfl)) (fun _ _ _ h => h) (Or.inl ⟨by rfl, ?_⟩) hHeld ?_ ?_
  rotate_left
  · rintro w' ⟨⟨s0, s1⟩, s2, s3, s4⟩
    go_simp
    first | done | with_reducible rfl
  rotate_left
  · simp only [Act.put, List.setIfInBounds_toArray, List.set_cons_zero, List.set_cons_succ, i64_w, i32_w]
    rfl
  refine pure_ (i := 4) (N := (some 57)) (v := ?_) (a' := ?_) #[true, true, true, true, true, false, false, false] rfl rfl (any_of HT_.out (by kernel_rfl)) (fun _ _ _ h => h) (Or.inl ⟨by rfl, ?_⟩) ?_ ?_
  rotate_left
  · intro w'
    go_simp
    first | done | with_reducible rfl
  rotate_left
  · simp only [Act.put, List.setIfInBounds_toArray, List.set_cons_zero, List.set_cons_succ, i64_w, i32_w]
    rfl
  refine take_ (i := 5) (N := (some 58)) (v := ?_) (a' := ?_) #[true, true, true, true, true, true, false, false] rfl rfl (take_ofW HT_.out HW_.out (by kernel_rfl)) (fun _ _ _ h => h) (Or.inl ⟨by rfl, ?_⟩) hHeld ?_ ?_
  rotate_left
  · rintro w' ⟨⟨s0, s1⟩, s2, s3, s4⟩
    go_simp
    first | done | with_reducible rfl
  rotate_left
  · simp only [Act.put, List.setIfInBounds_toArray, List.set_cons_zero, List.set_cons_succ, i64_w, i32_w]
    rfl
  refine pure_ (i := 6) (N := (some 59)) (v := ?_) (a' := ?_) #[true, true, true, true, true, true, true, false] rfl rfl (any_of HT_.out (by kernel_rfl)) (fun _ _ _ h => h) (Or.inl ⟨by rfl, ?_⟩) ?_ ?_
  rotate_left
  · intro w'
    go_simp
    first | done | with_reducible rfl
  rotate_left
  · simp only [Act.put, List.setIfInBounds_toArray, List.set_cons_zero, List.set_cons_succ, i64_w, i32_w]
    rfl
  refine pure_ (i := 7) (N := (some 7)) (v := ?_) (a' := ?_) #[true, true, true, true, true, true, true, true] rfl rfl (any_of HT_.out (by kernel_rfl)) (fun _ _ _ h => h) (Or.inl ⟨by rfl, ?_⟩) ?_ ?_
  rotate_left
  · intro w'
    go_simp
    first | done | with_reducible rfl
  rotate_left
  · simp only [Act.put, List.setIfInBounds_toArray, List.set_cons_zero, List.set_cons_succ, i64_w, i32_w]
    rfl
  refine done_ (done_of HT_.out (by kernel_rfl)) ?_
  obtain ⟨w5, hw5⟩ : ∃ w5, w4.drew = w5 := ⟨_, rfl⟩
  have hb5 : Below w4.heap.size w4 w5 := by rw [← hw5]; exact below_drew (Below.refl _ _)
  have HR5 := Aside0.mk (HR4.out.below hb5)
  have HK5 := Aside0.mk (HK4.out.below hb5)
  have HBX5 := Aside0.mk ((hb5.block bx (blk_lt HBX4.out)).trans HBX4.out)
  rw [hw5]
  clear hw5 hb5 HR4 HK4 HBX4 hHeld HT_ HW_
  obtain ⟨-, ⟨-, -, -, c8, -⟩, fz⟩ := rten HR5.out
  have f8 := fz 8
  obtain ⟨-, d1, -, -⟩ := rrowCells HR5.out HBk.out
  rw [← HN.out] at d1
  have fh : w5.frozen? ⟨h, i * 4 + 1, none⟩ = false := blk_frozen HR5.out.hh _
  have hgh := HR5.out.gh
  clear fz
  go_upto_region 12 with fail
  obtain ⟨w6, hw6⟩ : ∃ w6, ((w5.setCell ⟨g, 8, none⟩ (.int .i64 (wrap64 (s.bp + 1)))).setCell ⟨h, i * 4 + 1, none⟩ (.int .i64 (wrap64 ((j : Int) + 1)))) = w6 := ⟨_, rfl⟩
  have hR6 : ∃ cs6, RRep w6 base ok g h cap cs6 pg ((bp1 s).mod i nextB) := by
    rw [← hw6]
    refine ⟨_, (HR5.out.setG (s' := bp1 s) 8 _ (by simp [Chp.rcells, bp1]) rfl { HR5.out.inv with }).setH i 1 HIn.out (by decide) nextB (fun _ => rfl) _ (fun b hb => by simp [nextB]) (fun b hb => ?_) (fun b hb => by simp [nextB])⟩
    have hb' : s.blocks[i]? = some b := hb
    rw [HBk.out] at hb'
    cases hb'
    simp [nextB, HN.out]
  have HK6 : Aside0 (Kp ok w w6) := ⟨by rw [← hw6]; exact (HK5.out.set (p := ⟨g, 8, none⟩) HR5.out.okg _).set (p := ⟨h, i * 4 + 1, none⟩) HR5.out.okh _⟩
  have hbx6 : w6.heap[bx]? = some (.cells #[.int .i64 (i : Int), .int .i64 (j : Int)] 29 (0, 0)) := by
    rw [← hw6]
    exact blk_far (blk_far HBX5.out (p := ⟨g, 8, none⟩) (type_ne HBX5.out HR5.out.hg (by decide)) _) (p := ⟨h, i * 4 + 1, none⟩) (type_ne HBX5.out HR5.out.hh (by decide)) _
  have HBX6 := Aside0.mk hbx6
  obtain ⟨cs6, hr6⟩ := hR6
  have HR6 := Aside0.mk hr6
  rw [hw6]
  clear hw6 hr6 hbx6 HR5 HK5 HBX5 c8 f8 d1 fh hgh
  have hd6 : Below w6.heap.size w6 w6.drew := below_drew (Below.refl _ _)
  have HR7 := Aside0.mk (HR6.out.below hd6)
  have HK7 := Aside0.mk (HK6.out.below hd6)
  have HBX7 := Aside0.mk ((hd6.block bx (blk_lt HBX6.out)).trans HBX6.out)
  have HC4 : Aside0 (w6.drew.cell? ⟨g, 4, none⟩ = some (.int .i64 s.cut)) := ⟨(rten HR7.out).1.2.2.2.2⟩
  have HF4 : Aside0 (w6.drew.frozen? ⟨g, 4, none⟩ = false) := ⟨(rten HR7.out).2.2 4⟩
  clear hd6 HR6 HK6 HBX6
  refine start_ (n := 10) (S := fun w' => True) (ds := []) #[false, false, false, false, false, false, false, false, false, false] (by kernel_rfl) rfl rfl trivial (fun hHeld => ?_)
  refine with_tabW reg_rprogram_12.tab reg_rprogram_12.bits (fun HT_ HW_ => ?_)
  refine pure_ (i := 0) (N := (some 76)) (v := ?_) (a' := ?_) #[true, false, false, false, false, false, false, false, false, false] rfl rfl (any_of HT_.out (by kernel_rfl)) (fun _ _ _ h => h) (Or.inl ⟨by rfl, ?_⟩) ?_ ?_
  rotate_left
  · intro w'
    go_simp
    first | done | with_reducible rfl
  rotate_left
  · simp only [Act.put, List.setIfInBounds_toArray, List.set_cons_zero, List.set_cons_succ, i64_w, i32_w]
    rfl
  refine pure_ (i := 1) (N := (some 77)) (v := ?_) (a' := ?_) #[true, true, false, false, false, false, false, false, false, false] rfl rfl (any_of HT_.out (by kernel_rfl)) (fun _ _ _ h => h) (Or.inl ⟨by rfl, ?_⟩) ?_ ?_
  rotate_left
  · intro w'
    go_simp
    first | done | with_reducible rfl
  rotate_left
  · simp only [Act.put, List.setIfInBounds_toArray, List.set_cons_zero, List.set_cons_succ, i64_w, i32_w]
    rfl
  refine pure_ (i := 2) (N := (some 78)) (v := ?_) (a' := ?_) #[true, true, true, false, false, false, false, false, false, false] rfl rfl (any_of HT_.out (by kernel_rfl)) (fun _ _ _ h => h) (Or.inl ⟨by rfl, ?_⟩) ?_ ?_
  rotate_left
  · intro w'
    go_simp
    first | done | with_reducible rfl
  rotate_left
  · simp only [Act.put, List.setIfInBounds_toArray, List.set_cons_zero, List.set_cons_succ, i64_w, i32_w]
    rfl
  refine pure_ (i := 4) (N := (some 80)) (v := ?_) (a' := ?_) #[true, true, true, false, true, false, false, false, false, false] rfl rfl (any_of HT_.out (by kernel_rfl)) (fun _ _ _ h => h) (Or.inl ⟨by rfl, ?_⟩) ?_ ?_
  rotate_left
  · intro w'
    go_simp
    first | done | with_reducible rfl
  rotate_left
  · simp only [Act.put, List.setIfInBounds_toArray, List.set_cons_zero, List.set_cons_succ, i64_w, i32_w]
    rfl
  refine pure_ (i := 5) (N := (some 81)) (v := ?_) (a' := ?_) #[true, true, true, false, true, true, false, false, false, false] rfl rfl (any_of HT_.out (by kernel_rfl)) (fun _ _ _ h => h) (Or.inl ⟨by rfl, ?_⟩) ?_ ?_
  rotate_left
  · intro w'
    go_simp
    first | done | with_reducible rfl
  rotate_left
  · simp only [Act.put, List.setIfInBounds_toArray, List.set_cons_zero, List.set_cons_succ, i64_w, i32_w]
    rfl
  refine pure_ (i := 6) (N := (some 82)) (v := ?_) (a' := ?_) #[true, true, true, false, true, true, true, false, false, false] rfl rfl (any_of HT_.out (by kernel_rfl)) (fun _ _ _ h => h) (Or.inl ⟨by rfl, ?_⟩) ?_ ?_
  rotate_left
  · intro w'
    go_simp
    first | done | with_reducible rfl
  rotate_left
  · simp only [Act.put, List.setIfInBounds_toArray, List.set_cons_zero, List.set_cons_succ, i64_w, i32_w]
    rfl
  refine one_ (i := 3) (N := (some 79)) #[true, true, true, true, true, true, true, false, false, false] rfl rfl (one_of HT_.out (by kernel_rfl)) (by decide) (fun K hK => ?_)
  refine goes_ Try.func51 (by kernel_rfl) rfl #[.pointer (some ⟨g, 4, none⟩)] (by rfl) rfl rfl (by (try simp only [List.map_toArray, List.map_cons, List.map_nil]); first | done | rfl) ?_
  with_reducible refine (rcomes HC4.out HF4.out HI.out.inv.c0 HI.out.inv.c2).mono ?_
  rintro ev_ w8 ⟨rfl, hs8⟩
  refine ⟨_, rfl, ?_⟩
  obtain ⟨hr8, hk8⟩ := rcut_step HR7.out hs8
  have HR8 := Aside0.mk hr8
  have HK8 := Aside0.mk (HK7.out.trans (hk8.mono (fun k hk => by rw [hk]; exact HR7.out.okg)))
  have HBX8 := Aside0.mk (hk8.blk HBX7.out (type_ne HBX7.out HR7.out.hg (by decide)))
  have HC2 : Aside0 (w8.cell? ⟨g, 2, none⟩ = some (.int .i64 s.fail)) := ⟨(rten HR8.out).1.2.2.1⟩
  have HF2 : Aside0 (w8.frozen? ⟨g, 2, none⟩ = false) := ⟨(rten HR8.out).2.2 2⟩
  clear hr8 hk8 hs8
  refine hK.out _ _ trivial (fun hHeld => ?_)
  clear hK K
  refine norm_ (a' := ?_) ?_ ?_
  rotate_left
  · show Act.put _ (some 79) _ = _
    simp only [Act.put, List.setIfInBounds_toArray, List.set_cons_zero, List.set_cons_succ, i64_w, i32_w]
    rfl
  refine one_ (i := 7) (N := (some 83)) #[true, true, true, true, true, true, true, true, false, false] rfl rfl (one_of HT_.out (by kernel_rfl)) (by decide) (fun K hK => ?_)
  refine goes_ Try.func51 (by kernel_rfl) rfl #[.pointer (some ⟨g, 2, none⟩)] (by rfl) rfl rfl (by (try simp only [List.map_toArray, List.map_cons, List.map_nil]); first | done | rfl) ?_
  with_reducible refine (rcomes HC2.out HF2.out HI.out.inv.f0 HI.out.inv.f2).mono ?_
  rintro ev_ w9 ⟨rfl, hs9⟩
  refine ⟨_, rfl, ?_⟩
  obtain ⟨hr9, hk9⟩ := rfail_step HR8.out hs9
  have HR9 : Aside0 (RRep w9 base ok g h cap cs6 pg (rbump s i)) := ⟨hr9⟩
  have HK9 := Aside0.mk (HK8.out.trans (hk9.mono (fun k hk => by rw [hk]; exact HR8.out.okg)))
  have HBX9 := Aside0.mk (hk9.blk HBX8.out (type_ne HBX8.out HR8.out.hg (by decide)))
  clear hr9 hk9 hs9 HR8 HK8 HBX8 HC2 HF2
  refine hK.out _ _ trivial (fun hHeld => ?_)
  clear hK K
  refine norm_ (a' := ?_) ?_ ?_
  rotate_left
  · show Act.put _ (some 83) _ = _
    simp only [Act.put, List.setIfInBounds_toArray, List.set_cons_zero, List.set_cons_succ, i64_w, i32_w]
    rfl
  refine pure_ (i := 8) (N := (some 8)) (v := ?_) (a' := ?_) #[true, true, true, true, true, true, true, true, true, false] rfl rfl (any_of HT_.out (by kernel_rfl)) (fun _ _ _ h => h) (Or.inl ⟨by rfl, ?_⟩) ?_ ?_
  rotate_left
  · intro w'
    go_simp
    first | done | with_reducible rfl
  rotate_left
  · simp only [Act.put, List.setIfInBounds_toArray, List.set_cons_zero, List.set_cons_succ, i64_w, i32_w]
    rfl
  refine pure_ (i := 9) (N := (some 9)) (v := ?_) (a' := ?_) #[true, true, true, true, true, true, true, true, true, true] rfl rfl (any_of HT_.out (by kernel_rfl)) (fun _ _ _ h => h) (Or.inl ⟨by rfl, ?_⟩) ?_ ?_
  rotate_left
  · intro w'
    go_simp
    first | done | with_reducible rfl
  rotate_left
  · simp only [Act.put, List.setIfInBounds_toArray, List.set_cons_zero, List.set_cons_succ, i64_w, i32_w]
    rfl
  refine done_ (done_of HT_.out (by kernel_rfl)) ?_
  obtain ⟨bc, hbc⟩ : ∃ b, (s.cut == 1) = b := ⟨_, rfl⟩
  obtain ⟨bf, hbf⟩ : ∃ b, (s.fail == 1) = b := ⟨_, rfl⟩
  have HBC := Aside0.mk hbc
  have HBF := Aside0.mk hbf
  rw [hbc, hbf]
  clear hbc hbf hHeld HT_ HW_ HC4 HF4 HR7 HK7 HBX7
  have HC8 := Aside0.mk (Kd.C_drew (C_kp HK9.out HRA.out HDJ.out))
  have HF8 : Aside0 (Fr ok w9.drew) := ⟨fun k hk => HFr.out k (Nat.le_trans HK9.out.bel.size hk)⟩
  have HP8 : Aside0 (base ≤ w9.drew.heap.size) := ⟨Nat.le_of_lt (Nat.lt_of_le_of_lt (HR9.out.okb g HR9.out.okg) (blk_lt HR9.out.hg))⟩
  have HK0 : Aside0 (0 ≤ s.keep) := ⟨HI.out.inv.k1⟩
  cases bc with
  | true =>
    have HC0 : Aside0 (s.cut = 1) := ⟨by simpa using HBC.out⟩
    obtain ⟨hi, A', c', hmin, hcut, hC', hc'⟩ := upto_min HC8.out HCL.out HK0.out
    obtain ⟨M, hM⟩ : ∃ M, xs.take s.keep.toNat = M := ⟨_, rfl⟩
    have HML : Aside0 (M.length ≤ 2000) := ⟨by have := HLn.out; rw [← hM, List.length_take]; omega⟩
    rw [hM] at hcut hC' hc'
    have HM := Aside0.mk hM
    have HCM := Aside0.mk hC'
    clear hM hC' hc'
    go_upto_region 14 with fail
    refine start_ (n := 18) (S := fun w' => (w'.cell? ⟨bx, 0, none⟩ = some (.int .i64 (i : Int)) ∧ w'.cell? ⟨bx, 1, none⟩ = some (.int .i64 (j : Int))) ∧ w'.cell? ⟨h, i * 4 + 3, none⟩ = some (.slice (some ⟨pg i, 0, none⟩) B.pages.length B.pages.length) ∧ w'.cell? ⟨g, 5, none⟩ = some (.int .i64 s.keep)) (ds := []) #[false, false, false, false, false, false, false, false, false, false, false, false, false, false, false, false, false, false] (by kernel_rfl) rfl rfl (rpageHeld HR9.out HBX9.out (rbumpB HBk.out) rfl (below_drew (Below.refl _ _))) (fun hHeld => ?_)
    refine with_tabW reg_rprogram_14.tab reg_rprogram_14.bits (fun HT_ HW_ => ?_)
    refine pure_ (i := 0) (N := (some 86)) (v := ?_) (a' := ?_) #[true, false, false, false, false, false, false, false, false, false, false, false, false, false, false, false, false, false] rfl rfl (any_of HT_.out (by kernel_rfl)) (fun _ _ _ h => h) (Or.inl ⟨by rfl, ?_⟩) ?_ ?_
    rotate_left
    · intro w'
      go_simp
      first | done | with_reducible rfl
    rotate_left
    · simp only [Act.put, List.setIfInBounds_toArray, List.set_cons_zero, List.set_cons_succ, i64_w, i32_w]
      rfl
    refine pure_ (i := 1) (N := (some 87)) (v := ?_) (a' := ?_) #[true, true, false, false, false, false, false, false, false, false, false, false, false, false, false, false, false, false] rfl rfl (any_of HT_.out (by kernel_rfl)) (fun _ _ _ h => h) (Or.inl ⟨by rfl, ?_⟩) ?_ ?_
    rotate_left
    · intro w'
      go_simp
      first | done | with_reducible rfl
    rotate_left
    · simp only [Act.put, List.setIfInBounds_toArray, List.set_cons_zero, List.set_cons_succ, i64_w, i32_w]
      rfl
    refine pure_ (i := 2) (N := (some 88)) (v := ?_) (a' := ?_) #[true, true, true, false, false, false, false, false, false, false, false, false, false, false, false, false, false, false] rfl rfl (any_of HT_.out (by kernel_rfl)) (fun _ _ _ h => h) (Or.inl ⟨by rfl, ?_⟩) ?_ ?_
    rotate_left
    · intro w'
      go_simp
      first | done | with_reducible rfl
    rotate_left
    · simp only [Act.put, List.setIfInBounds_toArray, List.set_cons_zero, List.set_cons_succ, i64_w, i32_w]
      rfl
    refine take_ (i := 3) (N := (some 89)) (v := ?_) (a' := ?_) #[true, true, true, true, false, false, false, false, false, false, false, false, false, false, false, false, false, false] rfl rfl (take_ofW HT_.out HW_.out (by kernel_rfl)) (fun _ _ _ h => h) (Or.inl ⟨by rfl, ?_⟩) hHeld ?_ ?_
    rotate_left
    · rintro w' ⟨⟨s0, s1⟩, s2, s3⟩
      go_simp
      first | done | with_reducible rfl
    rotate_left
    · simp only [Act.put, List.setIfInBounds_toArray, List.set_cons_zero, List.set_cons_succ, i64_w, i32_w]
      rfl
    refine pure_ (i := 4) (N := (some 90)) (v := ?_) (a' := ?_) #[true, true, true, true, true, false, false, false, false, false, false, false, false, false, false, false, false, false] rfl rfl (any_of HT_.out (by kernel_rfl)) (fun _ _ _ h => h) (Or.inl ⟨by rfl, ?_⟩) ?_ ?_
    rotate_left
    · intro w'
      go_simp
      first | done | with_reducible rfl
    rotate_left
    · simp only [Act.put, List.setIfInBounds_toArray, List.set_cons_zero, List.set_cons_succ, i64_w, i32_w]
      rfl
    refine take_ (i := 5) (N := (some 91)) (v := ?_) (a' := ?_) #[true, true, true, true, true, true, false, false, false, false, false, false, false, false, false, false, false, false] rfl rfl (take_ofW HT_.out HW_.out (by kernel_rfl)) (fun _ _ _ h => h) (Or.inl ⟨by rfl, ?_⟩) hHeld ?_ ?_
    rotate_left
    · rintro w' ⟨⟨s0, s1⟩, s2, s3⟩
      go_simp
      first | done | with_reducible rfl
    rotate_left
    · simp only [Act.put, List.setIfInBounds_toArray, List.set_cons_zero, List.set_cons_succ, i64_w, i32_w]
      rfl
    refine pure_ (i := 6) (N := (some 92)) (v := ?_) (a' := ?_) #[true, true, true, true, true, true, true, false, false, false, false, false, false, false, false, false, false, false] rfl rfl (any_of HT_.out (by kernel_rfl)) (fun _ _ _ h => h) (Or.inl ⟨by rfl, ?_⟩) ?_ ?_
    rotate_left
    · intro w'
      go_simp
      first | done | with_reducible rfl
    rotate_left
    · simp only [Act.put, List.setIfInBounds_toArray, List.set_cons_zero, List.set_cons_succ, i64_w, i32_w]
      rfl
    refine pure_ (i := 7) (N := (some 93)) (v := ?_) (a' := ?_) #[true, true, true, true, true, true, true, true, false, false, false, false, false, false, false, false, false, false] rfl rfl (any_of HT_.out (by kernel_rfl)) (fun _ _ _ h => h) (Or.inl ⟨by rfl, ?_⟩) ?_ ?_
    rotate_left
    · intro w'
      go_simp
      first | done | with_reducible rfl
    rotate_left
    · simp only [Act.put, List.setIfInBounds_toArray, List.set_cons_zero, List.set_cons_succ, i64_w, i32_w]
      rfl
    refine pure_ (i := 8) (N := (some 94)) (v := ?_) (a' := ?_) #[true, true, true, true, true, true, true, true, true, false, false, false, false, false, false, false, false, false] rfl rfl (any_of HT_.out (by kernel_rfl)) (fun _ _ _ h => h) (Or.inl ⟨by rfl, ?_⟩) ?_ ?_
    rotate_left
    · intro w'
      go_simp
      first | done | with_reducible rfl
    rotate_left
    · simp only [Act.put, List.setIfInBounds_toArray, List.set_cons_zero, List.set_cons_succ, i64_w, i32_w]
      rfl
    refine pure_ (i := 9) (N := (some 95)) (v := ?_) (a' := ?_) #[true, true, true, true, true, true, true, true, true, true, false, false, false, false, false, false, false, false] rfl rfl (any_of HT_.out (by kernel_rfl)) (fun _ _ _ h => h) (Or.inl ⟨by rfl, ?_⟩) ?_ ?_
    rotate_left
    · intro w'
      go_simp
      first | done | with_reducible rfl
    rotate_left
    · simp only [Act.put, List.setIfInBounds_toArray, List.set_cons_zero, List.set_cons_succ, i64_w, i32_w]
      rfl
    refine take_ (i := 10) (N := (some 96)) (v := ?_) (a' := ?_) #[true, true, true, true, true, true, true, true, true, true, true, false, false, false, false, false, false, false] rfl rfl (take_ofW HT_.out HW_.out (by kernel_rfl)) (fun _ _ _ h => h) (Or.inl ⟨by rfl, ?_⟩) hHeld ?_ ?_
    rotate_left
    · rintro w' ⟨⟨s0, s1⟩, s2, s3⟩
      go_simp
      first | done | with_reducible rfl
    rotate_left
    · simp only [Act.put, List.setIfInBounds_toArray, List.set_cons_zero, List.set_cons_succ, i64_w, i32_w]
      rfl
    refine pure_ (i := 11) (N := (some 97)) (v := ?_) (a' := ?_) #[true, true, true, true, true, true, true, true, true, true, true, true, false, false, false, false, false, false] rfl rfl (any_of HT_.out (by kernel_rfl)) (fun _ _ _ h => h) (Or.inl ⟨by rfl, ?_⟩) ?_ ?_
    rotate_left
    · intro w'
      go_simp
      first | done | with_reducible rfl
    rotate_left
    · simp only [Act.put, List.setIfInBounds_toArray, List.set_cons_zero, List.set_cons_succ, i64_w, i32_w]
      rfl
    refine pure_ (i := 12) (N := (some 98)) (v := ?_) (a' := ?_) #[true, true, true, true, true, true, true, true, true, true, true, true, true, false, false, false, false, false] rfl rfl (any_of HT_.out (by kernel_rfl)) (fun _ _ _ h => h) (Or.inl ⟨by rfl, ?_⟩) ?_ ?_
    rotate_left
    · intro w'
      go_simp
      first | done | with_reducible rfl
    rotate_left
    · simp only [Act.put, List.setIfInBounds_toArray, List.set_cons_zero, List.set_cons_succ, i64_w, i32_w]
      rfl
    refine pure_ (i := 13) (N := (some 99)) (v := ?_) (a' := ?_) #[true, true, true, true, true, true, true, true, true, true, true, true, true, true, false, false, false, false] rfl rfl (any_of HT_.out (by kernel_rfl)) (fun _ _ _ h => h) (Or.inl ⟨by rfl, ?_⟩) ?_ ?_
    rotate_left
    · intro w'
      go_simp
      first | done | with_reducible rfl
    rotate_left
    · simp only [Act.put, List.setIfInBounds_toArray, List.set_cons_zero, List.set_cons_succ, i64_w, i32_w]
      rfl
    refine pure_ (i := 14) (N := (some 100)) (v := ?_) (a' := ?_) #[true, true, true, true, true, true, true, true, true, true, true, true, true, true, true, false, false, false] rfl rfl (any_of HT_.out (by kernel_rfl)) (fun _ _ _ h => h) (Or.inl ⟨by rfl, ?_⟩) ?_ ?_
    rotate_left
    · intro w'
      go_simp
      first | done | with_reducible rfl
    rotate_left
    · simp only [Act.put, List.setIfInBounds_toArray, List.set_cons_zero, List.set_cons_succ, i64_w, i32_w]
      rfl
    refine one_ (i := 15) (N := (some 101)) #[true, true, true, true, true, true, true, true, true, true, true, true, true, true, true, true, false, false] rfl rfl (one_of HT_.out (by kernel_rfl)) (by decide) (fun K hK => ?_)
    refine Kd.R_append_rows_step (Kd.int .u8) (w0 := w9) w9.drew.heap.size (by rfl) (.const (.slice none 0 0)) (.tmp 100) 22 5 (.int .u8 0) 1 rfl Try.underlying22 info5 rfl (by decide) (by omega) (.slice none 0 0) [] M A' M.length c' (fun _ => True) (fun _ => False) rfl rfl (Kd.R_nil _ _ _ _ _) HCM.out (fun _ _ h => h) (fun _ h => h.elim) (fun _ _ => trivial) (below_drew (Below.refl _ _)) (Nat.le_refl _) ?aL ?_
    (case aL => have := HML.out; simp; omega)
    intro v9 w9a ho hb hg hat
    have HV9 := Aside0.mk (fresh_R (show Kd.R (Kd.int .u8) 5 w9a w9.drew.heap.size (fun _ => True) v9 M from ho) HF8.out HP8.out)
    have hB9' := hb
    have HB9 := Aside0.mk hB9'
    have HR9a := Aside0.mk (HR9.out.below hB9')
    have HK9a := Aside0.mk (HK9.out.below hB9')
    obtain ⟨A9, n9, c9_, rfl⟩ := R_shape HV9.out
    obtain ⟨hib, hjb⟩ := rbump_page HBk.out HJ.out
    have HIB := Aside0.mk hib
    obtain ⟨⟨u9, hu9⟩, fz9⟩ := rpageCellB HR9a.out hib hjb
    have HU9 := Aside0.mk hu9
    have HZ9 := Aside0.mk fz9
    clear ho hb hg hat hib hjb hu9 fz9 hB9'
    refine hK.out _ _ (rpageHeld HR9.out HBX9.out (rbumpB HBk.out) rfl HB9.out) (fun hHeld => ?_)
    clear hK K
    refine norm_ (a' := ?_) ?_ ?_
    rotate_left
    · show Act.put _ (some 101) _ = _
      simp only [Act.put, List.setIfInBounds_toArray, List.set_cons_zero, List.set_cons_succ, i64_w, i32_w]
      rfl
    refine pure_ (i := 16) (N := (some 102)) (v := ?_) (a' := ?_) #[true, true, true, true, true, true, true, true, true, true, true, true, true, true, true, true, true, false] rfl rfl (any_of HT_.out (by kernel_rfl)) (fun _ _ _ h => h) (Or.inl ⟨by rfl, ?_⟩) ?_ ?_
    rotate_left
    · intro w'
      go_simp
      first | done | with_reducible rfl
    rotate_left
    · simp only [Act.put, List.setIfInBounds_toArray, List.set_cons_zero, List.set_cons_succ, i64_w, i32_w]
      rfl
    refine one_ (i := 17) (N := none) #[true, true, true, true, true, true, true, true, true, true, true, true, true, true, true, true, true, true] rfl rfl (one_of HT_.out (by kernel_rfl)) (by decide) (fun K hK => ?_)
    have hu9 := HU9.out
    have fz9 := HZ9.out
    go_simp
    clear hu9 fz9
    obtain ⟨w10, hw10⟩ : ∃ w10, w9a.setCell ⟨pg i, j, none⟩ (.slice A9 n9 c9_) = w10 := ⟨_, rfl⟩
    rw [hw10]
    have HR10 : Aside0 (RRep w10 base ok g h cap cs6 pg ((rbump s i).mod i (pageB j M))) := ⟨by rw [← hw10]; exact HR9a.out.setP i j HIB.out _ _ HV9.out⟩
    have HK10 : Aside0 (Kp ok w w10) := ⟨by rw [← hw10]; exact HK9a.out.set (p := ⟨pg i, j, none⟩) (HR9a.out.okp i HIB.out) _⟩
    have HBX10 : Aside0 (w10.heap[bx]? = some (.cells #[.int .i64 (i : Int), .int .i64 (j : Int)] 29 (0, 0))) := ⟨by rw [← hw10]; obtain ⟨ps_, hp_, -⟩ := HR9a.out.pgs i _ (List.getElem?_eq_getElem HIB.out); have hq_ := (HB9.out.block bx (blk_lt HBX9.out)).trans HBX9.out; exact blk_far hq_ (p := ⟨pg i, j, none⟩) (type_ne hq_ hp_ (by decide)) _⟩
    clear hw10
    refine hK.out _ _ (rpageHeld HR10.out HBX10.out (modB _ (fun _ => by simp [pageB]) (rbumpB HBk.out)) rfl (Below.refl _ _)) (fun hHeld => ?_)
    clear hK K
    refine done_ (done_of HT_.out (by kernel_rfl)) ?_
    clear hmin hcut hHeld HT_ HW_
    have c6 := (rten HR10.out).2.1.2.1
    have f6 := (rten HR10.out).2.2 6
    go_wp2_with fail
    go_ret
    rw [rgoS_cut HC0.out, HM.out]
    exact ⟨rfl, rnow_G HR10.out HK10.out 6 _ (by simp [Chp.rcells]) rfl { HR10.out.inv with }⟩
  | false =>
    have HC0 : Aside0 (s.cut ≠ 1) := ⟨by simpa using HBC.out⟩
    cases bf with
    | true =>
      have HF0 : Aside0 (s.fail = 1) := ⟨by simpa using HBF.out⟩
      have hq : wrap64 ((xs.length : Int) / 2) = ((xs.length / 2 : Nat) : Int) := by have := HLn.out; unfold wrap64; omega
      obtain ⟨A', c', hcut, hC', hc'⟩ := upto_rd (hi := ((xs.length / 2 : Nat) : Int)) HC8.out HCL.out (Int.natCast_nonneg _) (by omega)
      obtain ⟨q, hqq⟩ : ∃ q : Int, ((xs.length / 2 : Nat) : Int) = q := ⟨_, rfl⟩
      obtain ⟨M, hM⟩ : ∃ M, xs.take (xs.length / 2) = M := ⟨_, rfl⟩
      have HML : Aside0 (M.length ≤ 2000) := ⟨by have := HLn.out; rw [← hM, List.length_take]; omega⟩
      rw [Int.toNat_natCast] at hcut hC' hc'
      rw [hM] at hcut hC' hc'
      rw [hqq] at hq hcut
      have HM := Aside0.mk hM
      have HCM := Aside0.mk hC'
      clear hM hC' hc' hqq
      go_upto_region 18 with fail
      refine start_ (n := 14) (S := fun w' => (w'.cell? ⟨bx, 0, none⟩ = some (.int .i64 (i : Int)) ∧ w'.cell? ⟨bx, 1, none⟩ = some (.int .i64 (j : Int))) ∧ w'.cell? ⟨h, i * 4 + 3, none⟩ = some (.slice (some ⟨pg i, 0, none⟩) B.pages.length B.pages.length) ∧ w'.cell? ⟨g, 5, none⟩ = some (.int .i64 s.keep)) (ds := []) #[false, false, false, false, false, false, false, false, false, false, false, false, false, false] (by kernel_rfl) rfl rfl (rpageHeld HR9.out HBX9.out (rbumpB HBk.out) rfl (below_drew (Below.refl _ _))) (fun hHeld => ?_)
      refine with_tabW reg_rprogram_18.tab reg_rprogram_18.bits (fun HT_ HW_ => ?_)
      refine pure_ (i := 0) (N := (some 108)) (v := ?_) (a' := ?_) #[true, false, false, false, false, false, false, false, false, false, false, false, false, false] rfl rfl (any_of HT_.out (by kernel_rfl)) (fun _ _ _ h => h) (Or.inl ⟨by rfl, ?_⟩) ?_ ?_
      rotate_left
      · intro w'
        go_simp
        first | done | with_reducible rfl
      rotate_left
      · simp only [Act.put, List.setIfInBounds_toArray, List.set_cons_zero, List.set_cons_succ, i64_w, i32_w]
        rfl
      refine pure_ (i := 1) (N := (some 109)) (v := ?_) (a' := ?_) #[true, true, false, false, false, false, false, false, false, false, false, false, false, false] rfl rfl (any_of HT_.out (by kernel_rfl)) (fun _ _ _ h => h) (Or.inl ⟨by rfl, ?_⟩) ?_ ?_
      rotate_left
      · intro w'
        go_simp
        first | done | with_reducible rfl
      rotate_left
      · simp only [Act.put, List.setIfInBounds_toArray, List.set_cons_zero, List.set_cons_succ, i64_w, i32_w]
        rfl
      refine pure_ (i := 2) (N := (some 110)) (v := ?_) (a' := ?_) #[true, true, true, false, false, false, false, false, false, false, false, false, false, false] rfl rfl (any_of HT_.out (by kernel_rfl)) (fun _ _ _ h => h) (Or.inl ⟨by rfl, ?_⟩) ?_ ?_
      rotate_left
      · intro w'
        go_simp
        first | done | with_reducible rfl
      rotate_left
      · simp only [Act.put, List.setIfInBounds_toArray, List.set_cons_zero, List.set_cons_succ, i64_w, i32_w]
        rfl
      refine take_ (i := 3) (N := (some 111)) (v := ?_) (a' := ?_) #[true, true, true, true, false, false, false, false, false, false, false, false, false, false] rfl rfl (take_ofW HT_.out HW_.out (by kernel_rfl)) (fun _ _ _ h => h) (Or.inl ⟨by rfl, ?_⟩) hHeld ?_ ?_
      rotate_left
      · rintro w' ⟨⟨s0, s1⟩, s2, s3⟩
        go_simp
        first | done | with_reducible rfl
      rotate_left
      · simp only [Act.put, List.setIfInBounds_toArray, List.set_cons_zero, List.set_cons_succ, i64_w, i32_w]
        rfl
      refine pure_ (i := 4) (N := (some 112)) (v := ?_) (a' := ?_) #[true, true, true, true, true, false, false, false, false, false, false, false, false, false] rfl rfl (any_of HT_.out (by kernel_rfl)) (fun _ _ _ h => h) (Or.inl ⟨by rfl, ?_⟩) ?_ ?_
      rotate_left
      · intro w'
        go_simp
        first | done | with_reducible rfl
      rotate_left
      · simp only [Act.put, List.setIfInBounds_toArray, List.set_cons_zero, List.set_cons_succ, i64_w, i32_w]
        rfl
      refine take_ (i := 5) (N := (some 113)) (v := ?_) (a' := ?_) #[true, true, true, true, true, true, false, false, false, false, false, false, false, false] rfl rfl (take_ofW HT_.out HW_.out (by kernel_rfl)) (fun _ _ _ h => h) (Or.inl ⟨by rfl, ?_⟩) hHeld ?_ ?_
      rotate_left
      · rintro w' ⟨⟨s0, s1⟩, s2, s3⟩
        go_simp
        first | done | with_reducible rfl
      rotate_left
      · simp only [Act.put, List.setIfInBounds_toArray, List.set_cons_zero, List.set_cons_succ, i64_w, i32_w]
        rfl
      refine pure_ (i := 6) (N := (some 114)) (v := ?_) (a' := ?_) #[true, true, true, true, true, true, true, false, false, false, false, false, false, false] rfl rfl (any_of HT_.out (by kernel_rfl)) (fun _ _ _ h => h) (Or.inl ⟨by rfl, ?_⟩) ?_ ?_
      rotate_left
      · intro w'
        go_simp
        first | done | with_reducible rfl
      rotate_left
      · simp only [Act.put, List.setIfInBounds_toArray, List.set_cons_zero, List.set_cons_succ, i64_w, i32_w]
        rfl
      refine pure_ (i := 7) (N := (some 115)) (v := ?_) (a' := ?_) #[true, true, true, true, true, true, true, true, false, false, false, false, false, false] rfl rfl (any_of HT_.out (by kernel_rfl)) (fun _ _ _ h => h) (Or.inl ⟨by rfl, ?_⟩) ?_ ?_
      rotate_left
      · intro w'
        go_simp
        first | done | with_reducible rfl
      rotate_left
      · simp only [Act.put, List.setIfInBounds_toArray, List.set_cons_zero, List.set_cons_succ, i64_w, i32_w]
        rfl
      refine pure_ (i := 8) (N := (some 116)) (v := ?_) (a' := ?_) #[true, true, true, true, true, true, true, true, true, false, false, false, false, false] rfl rfl (any_of HT_.out (by kernel_rfl)) (fun _ _ _ h => h) (Or.inl ⟨by rfl, ?_⟩) ?_ ?_
      rotate_left
      · intro w'
        go_simp
        first | done | with_reducible rfl
      rotate_left
      · simp only [Act.put, List.setIfInBounds_toArray, List.set_cons_zero, List.set_cons_succ, i64_w, i32_w]
        rfl
      refine pure_ (i := 9) (N := (some 117)) (v := ?_) (a' := ?_) #[true, true, true, true, true, true, true, true, true, true, false, false, false, false] rfl rfl (any_of HT_.out (by kernel_rfl)) (fun _ _ _ h => h) (Or.inl ⟨by rfl, ?_⟩) ?_ ?_
      rotate_left
      · intro w'
        go_simp
        first | done | with_reducible rfl
      rotate_left
      · simp only [Act.put, List.setIfInBounds_toArray, List.set_cons_zero, List.set_cons_succ, i64_w, i32_w]
        rfl
      refine pure_ (i := 10) (N := (some 118)) (v := ?_) (a' := ?_) #[true, true, true, true, true, true, true, true, true, true, true, false, false, false] rfl rfl (any_of HT_.out (by kernel_rfl)) (fun _ _ _ h => h) (Or.inl ⟨by rfl, ?_⟩) ?_ ?_
      rotate_left
      · intro w'
        go_simp
        first | done | with_reducible rfl
      rotate_left
      · simp only [Act.put, List.setIfInBounds_toArray, List.set_cons_zero, List.set_cons_succ, i64_w, i32_w]
        rfl
      refine one_ (i := 11) (N := (some 119)) #[true, true, true, true, true, true, true, true, true, true, true, true, false, false] rfl rfl (one_of HT_.out (by kernel_rfl)) (by decide) (fun K hK => ?_)
      refine Kd.R_append_rows_step (Kd.int .u8) (w0 := w9) w9.drew.heap.size (by rfl) (.const (.slice none 0 0)) (.tmp 118) 22 5 (.int .u8 0) 1 rfl Try.underlying22 info5 rfl (by decide) (by omega) (.slice none 0 0) [] M A' M.length c' (fun _ => True) (fun _ => False) rfl rfl (Kd.R_nil _ _ _ _ _) HCM.out (fun _ _ h => h) (fun _ h => h.elim) (fun _ _ => trivial) (below_drew (Below.refl _ _)) (Nat.le_refl _) ?aL ?_
      (case aL => have := HML.out; simp; omega)
      intro v9 w9a ho hb hg hat
      have HV9 := Aside0.mk (fresh_R (show Kd.R (Kd.int .u8) 5 w9a w9.drew.heap.size (fun _ => True) v9 M from ho) HF8.out HP8.out)
      have hB9' := hb
      have HB9 := Aside0.mk hB9'
      have HR9a := Aside0.mk (HR9.out.below hB9')
      have HK9a := Aside0.mk (HK9.out.below hB9')
      obtain ⟨A9, n9, c9_, rfl⟩ := R_shape HV9.out
      obtain ⟨hib, hjb⟩ := rbump_page HBk.out HJ.out
      have HIB := Aside0.mk hib
      obtain ⟨⟨u9, hu9⟩, fz9⟩ := rpageCellB HR9a.out hib hjb
      have HU9 := Aside0.mk hu9
      have HZ9 := Aside0.mk fz9
      clear ho hb hg hat hib hjb hu9 fz9 hB9'
      refine hK.out _ _ (rpageHeld HR9.out HBX9.out (rbumpB HBk.out) rfl HB9.out) (fun hHeld => ?_)
      clear hK K
      refine norm_ (a' := ?_) ?_ ?_
      rotate_left
      · show Act.put _ (some 119) _ = _
        simp only [Act.put, List.setIfInBounds_toArray, List.set_cons_zero, List.set_cons_succ, i64_w, i32_w]
        rfl
      refine pure_ (i := 12) (N := (some 120)) (v := ?_) (a' := ?_) #[true, true, true, true, true, true, true, true, true, true, true, true, true, false] rfl rfl (any_of HT_.out (by kernel_rfl)) (fun _ _ _ h => h) (Or.inl ⟨by rfl, ?_⟩) ?_ ?_
      rotate_left
      · intro w'
        go_simp
        first | done | with_reducible rfl
      rotate_left
      · simp only [Act.put, List.setIfInBounds_toArray, List.set_cons_zero, List.set_cons_succ, i64_w, i32_w]
        rfl
      refine one_ (i := 13) (N := none) #[true, true, true, true, true, true, true, true, true, true, true, true, true, true] rfl rfl (one_of HT_.out (by kernel_rfl)) (by decide) (fun K hK => ?_)
      have hu9 := HU9.out
      have fz9 := HZ9.out
      go_simp
      clear hu9 fz9
      obtain ⟨w10, hw10⟩ : ∃ w10, w9a.setCell ⟨pg i, j, none⟩ (.slice A9 n9 c9_) = w10 := ⟨_, rfl⟩
      rw [hw10]
      have HR10 : Aside0 (RRep w10 base ok g h cap cs6 pg ((rbump s i).mod i (pageB j M))) := ⟨by rw [← hw10]; exact HR9a.out.setP i j HIB.out _ _ HV9.out⟩
      have HK10 : Aside0 (Kp ok w w10) := ⟨by rw [← hw10]; exact HK9a.out.set (p := ⟨pg i, j, none⟩) (HR9a.out.okp i HIB.out) _⟩
      have HBX10 : Aside0 (w10.heap[bx]? = some (.cells #[.int .i64 (i : Int), .int .i64 (j : Int)] 29 (0, 0))) := ⟨by rw [← hw10]; obtain ⟨ps_, hp_, -⟩ := HR9a.out.pgs i _ (List.getElem?_eq_getElem HIB.out); have hq_ := (HB9.out.block bx (blk_lt HBX9.out)).trans HBX9.out; exact blk_far hq_ (p := ⟨pg i, j, none⟩) (type_ne hq_ hp_ (by decide)) _⟩
      clear hw10
      refine hK.out _ _ (rpageHeld HR10.out HBX10.out (modB _ (fun _ => by simp [pageB]) (rbumpB HBk.out)) rfl (Below.refl _ _)) (fun hHeld => ?_)
      clear hK K
      refine done_ (done_of HT_.out (by kernel_rfl)) ?_
      clear hq hcut hHeld HT_ HW_
      obtain ⟨b9, c9⟩ := rcell0 HR10.out (modB _ (fun _ => by simp [pageB]) (rbumpB HBk.out))
      have f9 : w10.frozen? ⟨h, i * 4, none⟩ = false := blk_frozen HR10.out.hh _
      go_wp2_with fail
      go_ret
      rw [rgoS_fail HC0.out HF0.out, HM.out]
      exact ⟨rfl, ⟨_, _, _, _, HR10.out.setH i 0 (by rw [mod_len]; exact HIB.out) (by decide) badB (fun _ => rfl) (.bool true) (fun b hb => by simp [badB]) (fun b hb => by simp [badB]) (fun b hb => by simp [badB])⟩, HK10.out.set (p := ⟨h, i * 4, none⟩) HR10.out.okh _⟩
    | false =>
      have HF0 : Aside0 (s.fail ≠ 1) := ⟨by simpa using HBF.out⟩
      go_upto_region 21 with fail
      refine start_ (n := 10) (S := fun w' => (w'.cell? ⟨bx, 0, none⟩ = some (.int .i64 (i : Int)) ∧ w'.cell? ⟨bx, 1, none⟩ = some (.int .i64 (j : Int))) ∧ w'.cell? ⟨h, i * 4 + 3, none⟩ = some (.slice (some ⟨pg i, 0, none⟩) B.pages.length B.pages.length) ∧ w'.cell? ⟨g, 5, none⟩ = some (.int .i64 s.keep)) (ds := []) #[false, false, false, false, false, false, false, false, false, false] (by kernel_rfl) rfl rfl (rpageHeld HR9.out HBX9.out (rbumpB HBk.out) rfl (below_drew (Below.refl _ _))) (fun hHeld => ?_)
      refine with_tabW reg_rprogram_21.tab reg_rprogram_21.bits (fun HT_ HW_ => ?_)
      refine pure_ (i := 0) (N := (some 124)) (v := ?_) (a' := ?_) #[true, false, false, false, false, false, false, false, false, false] rfl rfl (any_of HT_.out (by kernel_rfl)) (fun _ _ _ h => h) (Or.inl ⟨by rfl, ?_⟩) ?_ ?_
      rotate_left
      · intro w'
        go_simp
        first | done | with_reducible rfl
      rotate_left
      · simp only [Act.put, List.setIfInBounds_toArray, List.set_cons_zero, List.set_cons_succ, i64_w, i32_w]
        rfl
      refine pure_ (i := 1) (N := (some 125)) (v := ?_) (a' := ?_) #[true, true, false, false, false, false, false, false, false, false] rfl rfl (any_of HT_.out (by kernel_rfl)) (fun _ _ _ h => h) (Or.inl ⟨by rfl, ?_⟩) ?_ ?_
      rotate_left
      · intro w'
        go_simp
        first | done | with_reducible rfl
      rotate_left
      · simp only [Act.put, List.setIfInBounds_toArray, List.set_cons_zero, List.set_cons_succ, i64_w, i32_w]
        rfl
      refine pure_ (i := 2) (N := (some 126)) (v := ?_) (a' := ?_) #[true, true, true, false, false, false, false, false, false, false] rfl rfl (any_of HT_.out (by kernel_rfl)) (fun _ _ _ h => h) (Or.inl ⟨by rfl, ?_⟩) ?_ ?_
      rotate_left
      · intro w'
        go_simp
        first | done | with_reducible rfl
      rotate_left
      · simp only [Act.put, List.setIfInBounds_toArray, List.set_cons_zero, List.set_cons_succ, i64_w, i32_w]
        rfl
      refine take_ (i := 3) (N := (some 127)) (v := ?_) (a' := ?_) #[true, true, true, true, false, false, false, false, false, false] rfl rfl (take_ofW HT_.out HW_.out (by kernel_rfl)) (fun _ _ _ h => h) (Or.inl ⟨by rfl, ?_⟩) hHeld ?_ ?_
      rotate_left
      · rintro w' ⟨⟨s0, s1⟩, s2, s3⟩
        go_simp
        first | done | with_reducible rfl
      rotate_left
      · simp only [Act.put, List.setIfInBounds_toArray, List.set_cons_zero, List.set_cons_succ, i64_w, i32_w]
        rfl
      refine pure_ (i := 4) (N := (some 128)) (v := ?_) (a' := ?_) #[true, true, true, true, true, false, false, false, false, false] rfl rfl (any_of HT_.out (by kernel_rfl)) (fun _ _ _ h => h) (Or.inl ⟨by rfl, ?_⟩) ?_ ?_
      rotate_left
      · intro w'
        go_simp
        first | done | with_reducible rfl
      rotate_left
      · simp only [Act.put, List.setIfInBounds_toArray, List.set_cons_zero, List.set_cons_succ, i64_w, i32_w]
        rfl
      refine take_ (i := 5) (N := (some 129)) (v := ?_) (a' := ?_) #[true, true, true, true, true, true, false, false, false, false] rfl rfl (take_ofW HT_.out HW_.out (by kernel_rfl)) (fun _ _ _ h => h) (Or.inl ⟨by rfl, ?_⟩) hHeld ?_ ?_
      rotate_left
      · rintro w' ⟨⟨s0, s1⟩, s2, s3⟩
        go_simp
        first | done | with_reducible rfl
      rotate_left
      · simp only [Act.put, List.setIfInBounds_toArray, List.set_cons_zero, List.set_cons_succ, i64_w, i32_w]
        rfl
      refine pure_ (i := 6) (N := (some 130)) (v := ?_) (a' := ?_) #[true, true, true, true, true, true, true, false, false, false] rfl rfl (any_of HT_.out (by kernel_rfl)) (fun _ _ _ h => h) (Or.inl ⟨by rfl, ?_⟩) ?_ ?_
      rotate_left
      · intro w'
        go_simp
        first | done | with_reducible rfl
      rotate_left
      · simp only [Act.put, List.setIfInBounds_toArray, List.set_cons_zero, List.set_cons_succ, i64_w, i32_w]
        rfl
      refine one_ (i := 7) (N := (some 131)) #[true, true, true, true, true, true, true, true, false, false] rfl rfl (one_of HT_.out (by kernel_rfl)) (by decide) (fun K hK => ?_)
      refine Kd.R_append_rows_step (Kd.int .u8) (w0 := w9) w9.drew.heap.size (by rfl) (.const (.slice none 0 0)) (.tmp 130) 22 5 (.int .u8 0) 1 rfl Try.underlying22 info5 rfl (by decide) (by omega) (.slice none 0 0) [] xs A xs.length c (fun _ => True) (fun _ => False) rfl rfl (Kd.R_nil _ _ _ _ _) HC8.out (fun _ _ h => h) (fun _ h => h.elim) (fun _ _ => trivial) (below_drew (Below.refl _ _)) (Nat.le_refl _) ?aL ?_
      (case aL => have := HLn.out; simp; omega)
      intro v9 w9a ho hb hg hat
      have HV9 := Aside0.mk (fresh_R (show Kd.R (Kd.int .u8) 5 w9a w9.drew.heap.size (fun _ => True) v9 xs from ho) HF8.out HP8.out)
      have hB9' := hb
      have HB9 := Aside0.mk hB9'
      have HR9a := Aside0.mk (HR9.out.below hB9')
      have HK9a := Aside0.mk (HK9.out.below hB9')
      obtain ⟨A9, n9, c9_, rfl⟩ := R_shape HV9.out
      obtain ⟨hib, hjb⟩ := rbump_page HBk.out HJ.out
      have HIB := Aside0.mk hib
      obtain ⟨⟨u9, hu9⟩, fz9⟩ := rpageCellB HR9a.out hib hjb
      have HU9 := Aside0.mk hu9
      have HZ9 := Aside0.mk fz9
      clear ho hb hg hat hib hjb hu9 fz9 hB9'
      refine hK.out _ _ (rpageHeld HR9.out HBX9.out (rbumpB HBk.out) rfl HB9.out) (fun hHeld => ?_)
      clear hK K
      refine norm_ (a' := ?_) ?_ ?_
      rotate_left
      · show Act.put _ (some 131) _ = _
        simp only [Act.put, List.setIfInBounds_toArray, List.set_cons_zero, List.set_cons_succ, i64_w, i32_w]
        rfl
      refine pure_ (i := 8) (N := (some 132)) (v := ?_) (a' := ?_) #[true, true, true, true, true, true, true, true, true, false] rfl rfl (any_of HT_.out (by kernel_rfl)) (fun _ _ _ h => h) (Or.inl ⟨by rfl, ?_⟩) ?_ ?_
      rotate_left
      · intro w'
        go_simp
        first | done | with_reducible rfl
      rotate_left
      · simp only [Act.put, List.setIfInBounds_toArray, List.set_cons_zero, List.set_cons_succ, i64_w, i32_w]
        rfl
      refine one_ (i := 9) (N := none) #[true, true, true, true, true, true, true, true, true, true] rfl rfl (one_of HT_.out (by kernel_rfl)) (by decide) (fun K hK => ?_)
      have hu9 := HU9.out
      have fz9 := HZ9.out
      go_simp
      clear hu9 fz9
      obtain ⟨w10, hw10⟩ : ∃ w10, w9a.setCell ⟨pg i, j, none⟩ (.slice A9 n9 c9_) = w10 := ⟨_, rfl⟩
      rw [hw10]
      have HR10 : Aside0 (RRep w10 base ok g h cap cs6 pg ((rbump s i).mod i (pageB j xs))) := ⟨by rw [← hw10]; exact HR9a.out.setP i j HIB.out _ _ HV9.out⟩
      have HK10 : Aside0 (Kp ok w w10) := ⟨by rw [← hw10]; exact HK9a.out.set (p := ⟨pg i, j, none⟩) (HR9a.out.okp i HIB.out) _⟩
      have HBX10 : Aside0 (w10.heap[bx]? = some (.cells #[.int .i64 (i : Int), .int .i64 (j : Int)] 29 (0, 0))) := ⟨by rw [← hw10]; obtain ⟨ps_, hp_, -⟩ := HR9a.out.pgs i _ (List.getElem?_eq_getElem HIB.out); have hq_ := (HB9.out.block bx (blk_lt HBX9.out)).trans HBX9.out; exact blk_far hq_ (p := ⟨pg i, j, none⟩) (type_ne hq_ hp_ (by decide)) _⟩
      clear hw10
      refine hK.out _ _ (rpageHeld HR10.out HBX10.out (modB _ (fun _ => by simp [pageB]) (rbumpB HBk.out)) rfl (Below.refl _ _)) (fun hHeld => ?_)
      clear hK K
      refine done_ (done_of HT_.out (by kernel_rfl)) ?_
      go_wp2_with fail
      go_ret
      rw [rgoS_ok HC0.out HF0.out]
      exact ⟨rfl, ⟨_, _, _, _, HR10.out⟩, HK10.out⟩
set_option maxHeartbeats 8000000 in
set_option maxRecDepth 100000 in
/-- Program. -/
theorem rprogram {w : World} {base : Nat} {ok : Nat → Prop} {g : Nat} {s : Chp} (hI : IsRef w base ok g s) (b p : Int) (A : Option Addr) (c : Nat) (xs : List Int) (hRA : Kd.C (Kd.int .u8) w A xs.length xs) (hcl : xs.length ≤ c) (hdj : ∀ ad, A = some ad → ¬ ok ad.block) (hF : Fr ok w) :
    Calls Try.prog 31 #[.pointer (some ⟨g, 0, none⟩), .agg #[.int .i64 b, .int .i64 p], .slice A xs.length c] w fun e w' => e = .returned (.int .i64 (rprogS s b p xs).2) ∧ RNow w base ok g (rprogS s b p xs).1 w' := by
  by_cases hx : spotB s b p = true ∧ 1 ≤ xs.length ∧ xs.length ≤ 2000
  · obtain ⟨i, j, B, ys, rfl, rfl, hB, -, hi, hj⟩ := spot_at hI.inv.toInv hx.1
    unfold rprogS
    rw [if_pos hx]
    simp only [Int.toNat_natCast, hB]
    by_cases hd : s.down = true
    · rw [if_pos hd]
      exact rprog_down hI i j B A c xs hx.1 hB hi hj hx.2 hd
    · rw [if_neg hd]
      by_cases hb : B.bad = true
      · rw [if_pos hb]
        exact rprog_bad hI i j B A c xs hx.1 hB hi hj hx.2 (by simpa using hd) hb
      · rw [if_neg hb]
        by_cases hn : (j : Int) ≠ B.next
        · rw [if_pos hn]
          exact rprog_order hI i j B A c xs hx.1 hB hi hj hx.2 (by simpa using hd) (by simpa using hb) hn
        · rw [if_neg hn]
          exact rprog_go hI i j B A c xs hx.1 hB hi hj hx.2 (by simpa using hd) (by simpa using hb) (Decidable.of_not_not hn) hRA hcl hdj hF
  · unfold rprogS
    rw [if_neg hx]
    exact rprog_arg hI b p A c xs hx
end Go.Proofs.Ytloldgiggnhemaa.Cm
