import Derived.Test.YtloldgiggnhemaaRg
set_option linter.unusedVariables false
set_option linter.unusedSimpArgs false
/-! The reference chip's Erase. -/
namespace Go.Proofs.Ytloldgiggnhemaa.Cm
open Go.RowKit Go.Proofs.YtloldgiggnhemaaW.PrintWords Go.Proofs.YtloldgiggnhemaaW.PrintLast Go.Proofs.YtloldgiggnhemaaW.PrintMore Go.Proofs.Ytloldgiggnhemaa.Kp Go.Proofs.Ytloldgiggnhemaa.Cp
attribute [local go_sem] max2_int min2_int max_two min_two max_three min_three max_four min_four

def rebump (s : Chp) (i : Nat) : Chp := { s.mod i countB with be := wrap64 (s.be + 1), cut := rdec s.cut, worn := rdec s.worn }
def rerS (s : Chp) (i : Nat) : Chp × Int :=
  if s.cut = 1 then
    if s.keep < s.pages then ({ ((rebump s i).mod i (clrB s.keep.toNat)).mod i (setN s.pages) with down := true }, 2)
    else ({ ((rebump s i).mod i (clrB s.pages.toNat)).mod i (setN 0) with down := true }, 2)
  else if s.worn = 1 then ((rebump s i).mod i badB, 3)
  else (((rebump s i).mod i (clrB s.pages.toNat)).mod i (setN 0), 0)
def reraseS (s : Chp) (b : Int) : Chp × Int :=
  if hasB s b = true then
    if s.down = true then (s, 2) else
    match s.blocks[b.toNat]? with
    | none => (s, 1)
    | some B => if B.bad = true then (s, 3) else rerS s b.toNat
  else (s, 1)
theorem clr_snoc (k : Nat) (l : List (List Int)) (hk : k < l.length) : (clr 0 k l).set k [] = clr 0 (k + 1) l := by
  apply List.ext_getElem?
  intro j
  rw [clr_get, List.getElem?_set, clr_get, clr_len]
  by_cases e : k = j
  · subst e
    rw [if_pos rfl, if_pos hk, if_pos ⟨by omega, by omega, hk⟩]
  · rw [if_neg e]
    by_cases h : 0 ≤ j ∧ j < 0 + k ∧ j < l.length
    · rw [if_pos h, if_pos ⟨by omega, by omega, h.2.2⟩]
    · rw [if_neg h, if_neg (by omega)]
theorem clr_step (s : Chp) (i k n : Nat) (hB : ∃ B, s.blocks[i]? = some B ∧ B.pages.length = n) (hk : k < n) : (s.mod i (clrB k)).mod i (fun b => { b with pages := b.pages.set k [] }) = s.mod i (clrB (k + 1)) := by
  obtain ⟨B, hB, rfl⟩ := hB
  rw [mod_mod]
  simp only [Chp.mod]
  congr 1
  apply List.ext_getElem?
  intro j
  simp only [List.getElem?_modify]
  by_cases e : i = j
  · subst e
    simp [hB, clrB, clr_snoc k B.pages hk]
  · simp [e]
theorem setN_setN (s : Chp) (i : Nat) (x y : Int) : (s.mod i (setN x)).mod i (setN y) = s.mod i (setN y) := mod_mod s i (setN x) (setN y)
theorem clr_zero (s : Chp) (i : Nat) : s.mod i (clrB 0) = s := mod_id s i
theorem rebumpB {s : Chp} {i : Nat} {B : Blk} (hB : s.blocks[i]? = some B) : ∃ B', (rebump s i).blocks[i]? = some B' ∧ B'.pages.length = B.pages.length := by
  obtain ⟨B', h1, h2⟩ := modB countB (fun _ => rfl) ⟨B, hB, rfl⟩
  exact ⟨B', h1, h2⟩
theorem rcell4 {W : World} {n : Nat} {base : Nat} {ok : Nat → Prop} {g h cap : Nat} {cs : Array Value} {pg : Nat → Nat} {s : Chp} (r : RRep W base ok g h cap cs pg s) {i : Nat} (hB : ∃ B, s.blocks[i]? = some B ∧ B.pages.length = n) :
    ∃ (b : Bool) (x y : Int), W.cell? ⟨h, i * 4, none⟩ = some (.bool b) ∧ W.cell? ⟨h, i * 4 + 1, none⟩ = some (.int .i64 x) ∧ W.cell? ⟨h, i * 4 + 2, none⟩ = some (.int .i64 y) ∧ W.cell? ⟨h, i * 4 + 3, none⟩ = some (.slice (some ⟨pg i, 0, none⟩) n n) := by
  obtain ⟨B, hB, rfl⟩ := hB
  exact ⟨_, _, _, rrowCells r hB⟩
theorem rpageW {W : World} {n : Nat} {base : Nat} {ok : Nat → Prop} {g h cap : Nat} {cs : Array Value} {pg : Nat → Nat} {s : Chp} (r : RRep W base ok g h cap cs pg s) {i k : Nat} (hB : ∃ B, s.blocks[i]? = some B ∧ B.pages.length = n) (hk : k < n) : (∃ v, W.cell? ⟨pg i, k, none⟩ = some v) ∧ W.frozen? ⟨pg i, k, none⟩ = false := by
  obtain ⟨B, hB, rfl⟩ := hB
  obtain ⟨hi, he⟩ := List.getElem?_eq_some_iff.1 hB
  exact rpageCellB r hi (by rw [he]; exact hk)
theorem rminHeld {w w' : World} {base : Nat} {ok : Nat → Prop} {g h cap : Nat} {cs : Array Value} {pg : Nat → Nat} {s : Chp} (r : RRep w base ok g h cap cs pg s) {k p : Int} (hk : s.keep = k) (hp : s.pages = p) (hb : Below w.heap.size w w') : w'.cell? ⟨g, 5, none⟩ = some (.int .i64 k) ∧ w'.cell? ⟨g, 1, none⟩ = some (.int .i64 p) := by
  subst hk
  subst hp
  exact ⟨pw_cell_below hb (rten r).2.1.1, pw_cell_below hb (rten r).1.2.1⟩
set_option maxHeartbeats 8000000 in
set_option maxRecDepth 100000 in
theorem rer_arg {w : World} {base : Nat} {ok : Nat → Prop} {g : Nat} {s : Chp} (hI : IsRef w base ok g s) (b : Int) (hx : hasB s b = false) :
    Calls Try.prog 26 #[.pointer (some ⟨g, 0, none⟩), .int .i64 b] w fun e w' => e = .returned (.int .i64 1) ∧ RNow w base ok g s w' := by
  have HI := Aside0.mk hI
  obtain ⟨h, cap, cs, pg, r⟩ := hI
  obtain ⟨⟨c0, -⟩, -, -⟩ := rten r
  clear r
  unfold hasB at hx
  by_cases h1 : b < 0
  · have d1 : decide (b < 0) = true := decide_eq_true h1
    clear hx h1
    go_enter Try.func26, Try.ntmps26
    go_wp2
    go_ret
    exact ⟨rfl, HI.out, Kp.refl _ _⟩
  · have d1 : decide (b < 0) = false := decide_eq_false h1
    have h2 : ¬ b < s.blocks.length := fun h2 => by simp [h2] at hx; omega
    have d2 : decide (b ≥ s.blocks.length) = true := decide_eq_true (by omega)
    clear hx h1 h2
    go_enter Try.func26, Try.ntmps26
    go_wp2
    go_ret
    exact ⟨rfl, HI.out, Kp.refl _ _⟩
set_option maxHeartbeats 8000000 in
set_option maxRecDepth 100000 in
theorem rer_down {w : World} {base : Nat} {ok : Nat → Prop} {g : Nat} {s : Chp} (hI : IsRef w base ok g s) (i : Nat) (B : Blk) (hB : s.blocks[i]? = some B) (hi : i < s.blocks.length) (hd : s.down = true) :
    Calls Try.prog 26 #[.pointer (some ⟨g, 0, none⟩), .int .i64 (i : Int)] w fun e w' => e = .returned (.int .i64 2) ∧ RNow w base ok g s w' := by
  have HI := Aside0.mk hI
  obtain ⟨h, cap, cs, pg, r⟩ := hI
  have HR := Aside0.mk r
  obtain ⟨⟨c0, -⟩, ⟨-, c6, -, -, c9⟩, fz⟩ := rten r
  obtain ⟨d0, -, d2, -⟩ := rrowCells r hB
  have f9 := fz 9
  have fh : w.frozen? ⟨h, i * 4 + 2, none⟩ = false := blk_frozen r.hh _
  have hgh := r.gh
  have HBk := Aside0.mk hB
  have HIn := Aside0.mk hi
  have hin : ((i : Nat) : Int) < (s.blocks.length : Int) := by omega
  have hin2 : decide ((i : Int) ≥ s.blocks.length) = false := decide_eq_false (by omega)
  have hin3 : decide (s.blocks.length ≤ i) = false := decide_eq_false (by omega)
  clear r fz hB hi
  rw [hd] at c6
  clear hd
  go_enter Try.func26, Try.ntmps26
  go_wp2
  go_ret
  exact ⟨rfl, HI.out, Kp.refl _ _⟩
set_option maxHeartbeats 8000000 in
set_option maxRecDepth 100000 in
theorem rer_bad {w : World} {base : Nat} {ok : Nat → Prop} {g : Nat} {s : Chp} (hI : IsRef w base ok g s) (i : Nat) (B : Blk) (hB : s.blocks[i]? = some B) (hi : i < s.blocks.length) (hd : s.down = false) (hbad : B.bad = true) :
    Calls Try.prog 26 #[.pointer (some ⟨g, 0, none⟩), .int .i64 (i : Int)] w fun e w' => e = .returned (.int .i64 3) ∧ RNow w base ok g s w' := by
  have HI := Aside0.mk hI
  obtain ⟨h, cap, cs, pg, r⟩ := hI
  have HR := Aside0.mk r
  obtain ⟨⟨c0, -⟩, ⟨-, c6, -, -, c9⟩, fz⟩ := rten r
  obtain ⟨d0, -, d2, -⟩ := rrowCells r hB
  have f9 := fz 9
  have fh : w.frozen? ⟨h, i * 4 + 2, none⟩ = false := blk_frozen r.hh _
  have hgh := r.gh
  have HBk := Aside0.mk hB
  have HIn := Aside0.mk hi
  have hin : ((i : Nat) : Int) < (s.blocks.length : Int) := by omega
  have hin2 : decide ((i : Int) ≥ s.blocks.length) = false := decide_eq_false (by omega)
  have hin3 : decide (s.blocks.length ≤ i) = false := decide_eq_false (by omega)
  clear r fz hB hi
  rw [hd] at c6
  rw [hbad] at d0
  clear hd hbad
  go_enter Try.func26, Try.ntmps26
  go_wp2
  go_ret
  exact ⟨rfl, HI.out, Kp.refl _ _⟩
def reg_rerase_10.T : Bool × List (List Nat × List Nat) := (true, [([], []), ([0], [0]), ([1], [1]), ([2], [2]), ([], []), ([4], [4]), ([5], [5]), ([6, 3], [6]), ([3, 7, 0, 1, 2, 3], [3]), ([7, 8, 0, 1, 2, 3, 4, 5, 6, 7, 8], [7])])
def reg_rerase_10.B : List Nat := [0, 1, 3, 7, 0, 16, 48, 127, 255, 511]
theorem reg_rerase_10.tab : rtab .any (opsOf Try.f26 10) = reg_rerase_10.T := by kernel_rfl
theorem reg_rerase_10.bits : waitsOk reg_rerase_10.T.2 reg_rerase_10.B = true := by kernel_rfl
def reg_rerase_16.T : Bool × List (List Nat × List Nat) := (true, [([], []), ([0], [0]), ([1], [1]), ([2], [2]), ([], []), ([4], [4]), ([5], [5]), ([6], [6]), ([3, 7], [3, 7]), ([8, 0, 1, 2, 3, 4, 5, 6, 7, 8], [8])])
def reg_rerase_16.B : List Nat := [0, 1, 3, 7, 0, 16, 48, 112, 255, 511]
theorem reg_rerase_16.tab : rtab .any (opsOf Try.f26 16) = reg_rerase_16.T := by kernel_rfl
theorem reg_rerase_16.bits : waitsOk reg_rerase_16.T.2 reg_rerase_16.B = true := by kernel_rfl
theorem rerS_k {s : Chp} {i n : Nat} (h : s.cut = 1) (h2 : s.keep < s.pages) (hn : (n : Int) = s.keep) : rerS s i = ({ ((rebump s i).mod i (clrB n)).mod i (setN s.pages) with down := true }, 2) := by unfold rerS; rw [if_pos h, if_pos h2, ← hn, Int.toNat_natCast]
theorem rerS_p {s : Chp} {i n : Nat} (h : s.cut = 1) (h2 : ¬ s.keep < s.pages) (hn : (n : Int) = s.pages) : rerS s i = ({ ((rebump s i).mod i (clrB n)).mod i (setN 0) with down := true }, 2) := by unfold rerS; rw [if_pos h, if_neg h2, ← hn, Int.toNat_natCast]
theorem rerS_w {s : Chp} {i : Nat} (h : s.cut ≠ 1) (h2 : s.worn = 1) : rerS s i = ((rebump s i).mod i badB, 3) := by unfold rerS; rw [if_neg h, if_pos h2]
theorem rerS_n {s : Chp} {i n : Nat} (h : s.cut ≠ 1) (h2 : s.worn ≠ 1) (hn : (n : Int) = s.pages) : rerS s i = (((rebump s i).mod i (clrB n)).mod i (setN 0), 0) := by unfold rerS; rw [if_neg h, if_neg h2, ← hn, Int.toNat_natCast]
set_option maxHeartbeats 8000000 in
set_option maxRecDepth 100000 in
theorem rer_go {w : World} {base : Nat} {ok : Nat → Prop} {g : Nat} {s : Chp} (hI : IsRef w base ok g s) (i : Nat) (B : Blk) (hB : s.blocks[i]? = some B) (hi : i < s.blocks.length) (hd : s.down = false) (hbad : B.bad = false) :
    Calls Try.prog 26 #[.pointer (some ⟨g, 0, none⟩), .int .i64 (i : Int)] w fun e w' => e = .returned (.int .i64 (rerS s i).2) ∧ RNow w base ok g (rerS s i).1 w' := by
  have HI := Aside0.mk hI
  obtain ⟨h, cap, cs, pg, r⟩ := hI
  have HR := Aside0.mk r
  obtain ⟨⟨c0, -⟩, ⟨-, c6, -, -, c9⟩, fz⟩ := rten r
  obtain ⟨d0, -, d2, -⟩ := rrowCells r hB
  have f9 := fz 9
  have fh : w.frozen? ⟨h, i * 4 + 2, none⟩ = false := blk_frozen r.hh _
  have hgh := r.gh
  have HBk := Aside0.mk hB
  have HIn := Aside0.mk hi
  have hin : ((i : Nat) : Int) < (s.blocks.length : Int) := by omega
  have hin2 : decide ((i : Int) ≥ s.blocks.length) = false := decide_eq_false (by omega)
  have hin3 : decide (s.blocks.length ≤ i) = false := decide_eq_false (by omega)
  clear r fz hB hi
  have d2' : ∃ x, w.cell? ⟨h, i * 4 + 2, none⟩ = some (.int .i64 x) ∧ B.count = x := ⟨_, d2, rfl⟩
  rw [hd] at c6
  rw [hbad] at d0
  clear hd hbad d2'
  have HIN : Aside0 (i < (rebump s i).blocks.length) := ⟨by show i < (s.mod i countB).blocks.length; rw [mod_len]; exact HIn.out⟩
  have HPG : Aside0 ((B.pages.length : Int) = s.pages ∧ 1 ≤ s.pages ∧ s.pages ≤ 32) := ⟨HR.out.inv.len B (List.mem_of_getElem? HBk.out), HR.out.inv.p1, HR.out.inv.p2⟩
  go_enter Try.func26, Try.ntmps26
  go_upto_region 10 with fail
  obtain ⟨w2, hw2⟩ : ∃ w2, ((w.setCell ⟨g, 9, none⟩ (.int .i64 (wrap64 (s.be + 1)))).setCell ⟨h, i * 4 + 2, none⟩ (.int .i64 (wrap64 (B.count + 1)))) = w2 := ⟨_, rfl⟩
  have hR2 : ∃ cs2, RRep w2 base ok g h cap cs2 pg ({ s with be := wrap64 (s.be + 1) }.mod i countB) := by
    rw [← hw2]
    refine ⟨_, (HR.out.setG (s' := { s with be := wrap64 (s.be + 1) }) 9 _ (by simp [Chp.rcells]) rfl { HR.out.inv with }).setH i 2 HIn.out (by decide) countB (fun _ => rfl) _ (fun b hb => by simp [countB]) (fun b hb => by simp [countB]) (fun b hb => ?_)⟩
    have hb' : s.blocks[i]? = some b := hb
    rw [HBk.out] at hb'
    cases hb'
    simp [countB]
  have HK2 : Aside0 (Kp ok w w2) := ⟨by rw [← hw2]; exact ((Kp.refl ok w).set (p := ⟨g, 9, none⟩) HR.out.okg _).set (p := ⟨h, i * 4 + 2, none⟩) HR.out.okh _⟩
  obtain ⟨cs2, hr2⟩ := hR2
  have HR2 := Aside0.mk hr2
  rw [hw2]
  clear hw2 hr2 HR c0 c6 c9 d0 d2 f9 fh hgh
  have HR3 := Aside0.mk (HR2.out.below (below_drew (Below.refl _ w2)))
  have HK3 := Aside0.mk (HK2.out.below (below_drew (Below.refl _ w2)))
  have HC4 : Aside0 (w2.drew.cell? ⟨g, 4, none⟩ = some (.int .i64 s.cut)) := ⟨(rten HR3.out).1.2.2.2.2⟩
  have HF4 : Aside0 (w2.drew.frozen? ⟨g, 4, none⟩ = false) := ⟨(rten HR3.out).2.2 4⟩
  clear HR2 HK2
  refine start_ (n := 10) (S := fun w' => True) (ds := []) #[false, false, false, false, false, false, false, false, false, false] (by kernel_rfl) rfl rfl trivial (fun hHeld => ?_)
  refine with_tabW reg_rerase_10.tab reg_rerase_10.bits (fun HT_ HW_ => ?_)
  refine pure_ (i := 0) (N := (some 58)) (v := ?_) (a' := ?_) #[true, false, false, false, false, false, false, false, false, false] rfl rfl (any_of HT_.out (by kernel_rfl)) (fun _ _ _ h => h) (Or.inl ⟨by rfl, ?_⟩) ?_ ?_
  rotate_left
  · intro w'
    go_simp
    first | done | with_reducible rfl
  rotate_left
  · simp only [Act.put, List.setIfInBounds_toArray, List.set_cons_zero, List.set_cons_succ, i64_w, i32_w]
    rfl
  refine pure_ (i := 1) (N := (some 59)) (v := ?_) (a' := ?_) #[true, true, false, false, false, false, false, false, false, false] rfl rfl (any_of HT_.out (by kernel_rfl)) (fun _ _ _ h => h) (Or.inl ⟨by rfl, ?_⟩) ?_ ?_
  rotate_left
  · intro w'
    go_simp
    first | done | with_reducible rfl
  rotate_left
  · simp only [Act.put, List.setIfInBounds_toArray, List.set_cons_zero, List.set_cons_succ, i64_w, i32_w]
    rfl
  refine pure_ (i := 2) (N := (some 60)) (v := ?_) (a' := ?_) #[true, true, true, false, false, false, false, false, false, false] rfl rfl (any_of HT_.out (by kernel_rfl)) (fun _ _ _ h => h) (Or.inl ⟨by rfl, ?_⟩) ?_ ?_
  rotate_left
  · intro w'
    go_simp
    first | done | with_reducible rfl
  rotate_left
  · simp only [Act.put, List.setIfInBounds_toArray, List.set_cons_zero, List.set_cons_succ, i64_w, i32_w]
    rfl
  refine pure_ (i := 4) (N := (some 62)) (v := ?_) (a' := ?_) #[true, true, true, false, true, false, false, false, false, false] rfl rfl (any_of HT_.out (by kernel_rfl)) (fun _ _ _ h => h) (Or.inl ⟨by rfl, ?_⟩) ?_ ?_
  rotate_left
  · intro w'
    go_simp
    first | done | with_reducible rfl
  rotate_left
  · simp only [Act.put, List.setIfInBounds_toArray, List.set_cons_zero, List.set_cons_succ, i64_w, i32_w]
    rfl
  refine pure_ (i := 5) (N := (some 63)) (v := ?_) (a' := ?_) #[true, true, true, false, true, true, false, false, false, false] rfl rfl (any_of HT_.out (by kernel_rfl)) (fun _ _ _ h => h) (Or.inl ⟨by rfl, ?_⟩) ?_ ?_
  rotate_left
  · intro w'
    go_simp
    first | done | with_reducible rfl
  rotate_left
  · simp only [Act.put, List.setIfInBounds_toArray, List.set_cons_zero, List.set_cons_succ, i64_w, i32_w]
    rfl
  refine pure_ (i := 6) (N := (some 64)) (v := ?_) (a' := ?_) #[true, true, true, false, true, true, true, false, false, false] rfl rfl (any_of HT_.out (by kernel_rfl)) (fun _ _ _ h => h) (Or.inl ⟨by rfl, ?_⟩) ?_ ?_
  rotate_left
  · intro w'
    go_simp
    first | done | with_reducible rfl
  rotate_left
  · simp only [Act.put, List.setIfInBounds_toArray, List.set_cons_zero, List.set_cons_succ, i64_w, i32_w]
    rfl
  refine one_ (i := 3) (N := (some 61)) #[true, true, true, true, true, true, true, false, false, false] rfl rfl (one_of HT_.out (by kernel_rfl)) (by decide) (fun K hK => ?_)
  refine goes_ Try.func51 (by kernel_rfl) rfl #[.pointer (some ⟨g, 4, none⟩)] (by rfl) rfl rfl (by (try simp only [List.map_toArray, List.map_cons, List.map_nil]); first | done | rfl) ?_
  with_reducible refine (rcomes HC4.out HF4.out HI.out.inv.c0 HI.out.inv.c2).mono ?_
  rintro ev_ w4 ⟨rfl, hs4⟩
  refine ⟨_, rfl, ?_⟩
  obtain ⟨hr4, hk4⟩ := rcut_step HR3.out hs4
  have HR4 := Aside0.mk hr4
  have HK4 := Aside0.mk (HK3.out.trans (hk4.mono (fun k hk => by rw [hk]; exact HR3.out.okg)))
  have HC3 : Aside0 (w4.cell? ⟨g, 3, none⟩ = some (.int .i64 s.worn)) := ⟨(rten HR4.out).1.2.2.2.1⟩
  have HF3 : Aside0 (w4.frozen? ⟨g, 3, none⟩ = false) := ⟨(rten HR4.out).2.2 3⟩
  clear hr4 hk4 hs4
  refine hK.out _ _ trivial (fun hHeld => ?_)
  clear hK K
  refine norm_ (a' := ?_) ?_ ?_
  rotate_left
  · show Act.put _ (some 61) _ = _
    simp only [Act.put, List.setIfInBounds_toArray, List.set_cons_zero, List.set_cons_succ, i64_w, i32_w]
    rfl
  refine one_ (i := 7) (N := (some 65)) #[true, true, true, true, true, true, true, true, false, false] rfl rfl (one_of HT_.out (by kernel_rfl)) (by decide) (fun K hK => ?_)
  refine goes_ Try.func51 (by kernel_rfl) rfl #[.pointer (some ⟨g, 3, none⟩)] (by rfl) rfl rfl (by (try simp only [List.map_toArray, List.map_cons, List.map_nil]); first | done | rfl) ?_
  with_reducible refine (rcomes HC3.out HF3.out HI.out.inv.w0 HI.out.inv.w2).mono ?_
  rintro ev_ w5 ⟨rfl, hs5⟩
  refine ⟨_, rfl, ?_⟩
  obtain ⟨hr5, hk5⟩ := rworn_step HR4.out hs5
  have HR5 : Aside0 (RRep w5 base ok g h cap cs2 pg (rebump s i)) := ⟨hr5⟩
  have HK5 := Aside0.mk (HK4.out.trans (hk5.mono (fun k hk => by rw [hk]; exact HR4.out.okg)))
  clear hr5 hk5 hs5 HR4 HK4 HC3 HF3
  refine hK.out _ _ trivial (fun hHeld => ?_)
  clear hK K
  refine norm_ (a' := ?_) ?_ ?_
  rotate_left
  · show Act.put _ (some 65) _ = _
    simp only [Act.put, List.setIfInBounds_toArray, List.set_cons_zero, List.set_cons_succ, i64_w, i32_w]
    rfl
  refine pure_ (i := 8) (N := (some 6)) (v := ?_) (a' := ?_) #[true, true, true, true, true, true, true, true, true, false] rfl rfl (any_of HT_.out (by kernel_rfl)) (fun _ _ _ h => h) (Or.inl ⟨by rfl, ?_⟩) ?_ ?_
  rotate_left
  · intro w'
    go_simp
    first | done | with_reducible rfl
  rotate_left
  · simp only [Act.put, List.setIfInBounds_toArray, List.set_cons_zero, List.set_cons_succ, i64_w, i32_w]
    rfl
  refine pure_ (i := 9) (N := (some 7)) (v := ?_) (a' := ?_) #[true, true, true, true, true, true, true, true, true, true] rfl rfl (any_of HT_.out (by kernel_rfl)) (fun _ _ _ h => h) (Or.inl ⟨by rfl, ?_⟩) ?_ ?_
  rotate_left
  · intro w'
    go_simp
    first | done | with_reducible rfl
  rotate_left
  · simp only [Act.put, List.setIfInBounds_toArray, List.set_cons_zero, List.set_cons_succ, i64_w, i32_w]
    rfl
  refine done_ (done_of HT_.out (by kernel_rfl)) ?_
  obtain ⟨bc, hbc⟩ : ∃ b, (s.cut == 1) = b := ⟨_, rfl⟩
  obtain ⟨bw, hbw⟩ : ∃ b, (s.worn == 1) = b := ⟨_, rfl⟩
  have HBC := Aside0.mk hbc
  have HBW := Aside0.mk hbw
  rw [hbc, hbw]
  clear hbc hbw hHeld HT_ HW_ HC4 HF4 HR3 HK3
  have HRD := Aside0.mk (HR5.out.below (below_drew (Below.refl _ w5)))
  cases bc with
  | true =>
    have HC0 : Aside0 (s.cut = 1) := ⟨by simpa using HBC.out⟩
    go_upto_region 11 with fail
    go_cut [70] from 66 to 70 (fun v wd => v = .bool false ∧ wd = w5)
    case first =>
      cases bw
      · go_wp2_with fail
        go_meet
        exact ⟨rfl, rfl⟩
      · go_wp2_with fail
        go_meet
        exact ⟨rfl, rfl⟩
    obtain ⟨rfl, hwc⟩ := hcut
    rw [hwc]
    clear hwc
    have ep : w5.cell? ⟨g, 1, none⟩ = some (.int .i64 s.pages) := (rten HR5.out).1.2.1
    by_cases hkp : s.keep < s.pages
    · obtain ⟨n, hn⟩ : ∃ n : Nat, (n : Int) = s.keep := ⟨s.keep.toNat, by have := HI.out.inv.k1; omega⟩
      have HKP := Aside0.mk hkp
      have HNE := Aside0.mk hn
      have HN : Aside0 (n ≤ B.pages.length ∧ n ≤ 32) := ⟨by have := HPG.out; omega⟩
      have HNP : Aside0 ((n : Int) < s.pages) := ⟨by omega⟩
      have hmn : ¬ s.pages < s.keep := by omega
      have hmin : (if s.pages < s.keep then s.pages else s.keep) = (n : Int) := by rw [if_neg hmn]; exact hn.symm
      have HMIN := Aside0.mk hmin
      clear hkp hn hmn hmin
      go_upto_region 16 with fail
      have hmin := HMIN.out
      refine start_ (n := 10) (S := fun w' => w'.cell? ⟨g, 5, none⟩ = some (.int .i64 s.keep) ∧ w'.cell? ⟨g, 1, none⟩ = some (.int .i64 s.pages)) (ds := []) #[false, false, false, false, false, false, false, false, false, false] (by kernel_rfl) rfl rfl (rminHeld HR5.out rfl rfl (below_drew (Below.refl _ _))) (fun hHeld => ?_)
      refine with_tabW reg_rerase_16.tab reg_rerase_16.bits (fun HT_ HW_ => ?_)
      refine pure_ (i := 0) (N := (some 79)) (v := ?_) (a' := ?_) #[true, false, false, false, false, false, false, false, false, false] rfl rfl (any_of HT_.out (by kernel_rfl)) (fun _ _ _ h => h) (Or.inl ⟨by rfl, ?_⟩) ?_ ?_
      rotate_left
      · intro w'
        go_simp
        first | done | with_reducible rfl
      rotate_left
      · simp only [Act.put, List.setIfInBounds_toArray, List.set_cons_zero, List.set_cons_succ, i64_w, i32_w]
        rfl
      refine pure_ (i := 1) (N := (some 80)) (v := ?_) (a' := ?_) #[true, true, false, false, false, false, false, false, false, false] rfl rfl (any_of HT_.out (by kernel_rfl)) (fun _ _ _ h => h) (Or.inl ⟨by rfl, ?_⟩) ?_ ?_
      rotate_left
      · intro w'
        go_simp
        first | done | with_reducible rfl
      rotate_left
      · simp only [Act.put, List.setIfInBounds_toArray, List.set_cons_zero, List.set_cons_succ, i64_w, i32_w]
        rfl
      refine pure_ (i := 2) (N := (some 81)) (v := ?_) (a' := ?_) #[true, true, true, false, false, false, false, false, false, false] rfl rfl (any_of HT_.out (by kernel_rfl)) (fun _ _ _ h => h) (Or.inl ⟨by rfl, ?_⟩) ?_ ?_
      rotate_left
      · intro w'
        go_simp
        first | done | with_reducible rfl
      rotate_left
      · simp only [Act.put, List.setIfInBounds_toArray, List.set_cons_zero, List.set_cons_succ, i64_w, i32_w]
        rfl
      refine take_ (i := 3) (N := (some 82)) (v := ?_) (a' := ?_) #[true, true, true, true, false, false, false, false, false, false] rfl rfl (take_ofW HT_.out HW_.out (by kernel_rfl)) (fun _ _ _ h => h) (Or.inl ⟨by rfl, ?_⟩) hHeld ?_ ?_
      rotate_left
      · rintro w' ⟨s0, s1⟩
        go_simp
        first | done | with_reducible rfl
      rotate_left
      · simp only [Act.put, List.setIfInBounds_toArray, List.set_cons_zero, List.set_cons_succ, i64_w, i32_w]
        rfl
      refine pure_ (i := 4) (N := (some 83)) (v := ?_) (a' := ?_) #[true, true, true, true, true, false, false, false, false, false] rfl rfl (any_of HT_.out (by kernel_rfl)) (fun _ _ _ h => h) (Or.inl ⟨by rfl, ?_⟩) ?_ ?_
      rotate_left
      · intro w'
        go_simp
        first | done | with_reducible rfl
      rotate_left
      · simp only [Act.put, List.setIfInBounds_toArray, List.set_cons_zero, List.set_cons_succ, i64_w, i32_w]
        rfl
      refine pure_ (i := 5) (N := (some 84)) (v := ?_) (a' := ?_) #[true, true, true, true, true, true, false, false, false, false] rfl rfl (any_of HT_.out (by kernel_rfl)) (fun _ _ _ h => h) (Or.inl ⟨by rfl, ?_⟩) ?_ ?_
      rotate_left
      · intro w'
        go_simp
        first | done | with_reducible rfl
      rotate_left
      · simp only [Act.put, List.setIfInBounds_toArray, List.set_cons_zero, List.set_cons_succ, i64_w, i32_w]
        rfl
      refine pure_ (i := 6) (N := (some 85)) (v := ?_) (a' := ?_) #[true, true, true, true, true, true, true, false, false, false] rfl rfl (any_of HT_.out (by kernel_rfl)) (fun _ _ _ h => h) (Or.inl ⟨by rfl, ?_⟩) ?_ ?_
      rotate_left
      · intro w'
        go_simp
        first | done | with_reducible rfl
      rotate_left
      · simp only [Act.put, List.setIfInBounds_toArray, List.set_cons_zero, List.set_cons_succ, i64_w, i32_w]
        rfl
      refine take_ (i := 7) (N := (some 86)) (v := ?_) (a' := ?_) #[true, true, true, true, true, true, true, true, false, false] rfl rfl (take_ofW HT_.out HW_.out (by kernel_rfl)) (fun _ _ _ h => h) (Or.inl ⟨by rfl, ?_⟩) hHeld ?_ ?_
      rotate_left
      · rintro w' ⟨s0, s1⟩
        go_simp
        first | done | with_reducible rfl
      rotate_left
      · simp only [Act.put, List.setIfInBounds_toArray, List.set_cons_zero, List.set_cons_succ, i64_w, i32_w]
        rfl
      refine pure_ (i := 8) (N := (some 87)) (v := ?_) (a' := ?_) #[true, true, true, true, true, true, true, true, true, false] rfl rfl (any_of HT_.out (by kernel_rfl)) (fun _ _ _ h => h) (Or.inl ⟨by rfl, ?_⟩) ?_ ?_
      rotate_left
      · intro w'
        go_simp
        first | done | with_reducible rfl
      rotate_left
      · simp only [Act.put, List.setIfInBounds_toArray, List.set_cons_zero, List.set_cons_succ, i64_w, i32_w]
        rfl
      refine pure_ (i := 9) (N := (some 8)) (v := ?_) (a' := ?_) #[true, true, true, true, true, true, true, true, true, true] rfl rfl (any_of HT_.out (by kernel_rfl)) (fun _ _ _ h => h) (Or.inl ⟨by rfl, ?_⟩) ?_ ?_
      rotate_left
      · intro w'
        go_simp
        first | done | with_reducible rfl
      rotate_left
      · simp only [Act.put, List.setIfInBounds_toArray, List.set_cons_zero, List.set_cons_succ, i64_w, i32_w]
        rfl
      refine done_ (done_of HT_.out (by kernel_rfl)) ?_
      clear hHeld HT_ HW_ ep
      have HRL := Aside0.mk (HR5.out.below (below_drew (Below.refl _ w5)))
      have HKL := Aside0.mk (HK5.out.below (below_drew (Below.refl _ w5)))
      go_wp2_with fail
      go_loopw [89] (fun v89 wr => ∃ k : Nat, k ≤ n ∧ v89 = .int .i64 (k : Int) ∧ Aside0 (RRep wr base ok g h cap cs2 pg ((rebump s i).mod i (clrB k))) ∧ Aside0 (Kp ok w wr)) (fun v89 _ => n - (intOf v89).toNat)
      case atStart => exact ⟨0, Nat.zero_le _, rfl, ⟨by rw [clr_zero]; exact HRL.out⟩, HKL⟩
      case round =>
        clear HRL HKL
        obtain ⟨k, hk, rfl, HRk, HKk⟩ := hrel
        by_cases hlt : k < n
        · have hlt2 : (k : Int) < (n : Int) := by omega
          have HLT := Aside0.mk hlt
          have hw3 : wrap64 ((k : Int) + 1) = ((k + 1 : Nat) : Int) := by rw [show (k : Int) + 1 = ((k + 1 : Nat) : Int) by omega]; exact rwrap (by omega) (by have := HN.out; omega)
          have hBk := modB (clrB k) (fun b => clr_len _ _ _) (rebumpB HBk.out)
          obtain ⟨b4, x4, y4, -, -, -, e3⟩ := rcell4 HRk.out hBk
          obtain ⟨⟨v4, hv4⟩, fz4⟩ := rpageW HRk.out hBk (show k < B.pages.length by have := HN.out; omega)
          have hkn : (k : Int) < (B.pages.length : Int) := by have := HN.out; omega
          have HBKk := Aside0.mk (show k < B.pages.length by have := HN.out; omega)
          clear hk hlt hBk
          go_wp2_with fail
          go_roundw
          case measure =>
            have hm : n - ((k + 1 : Nat) : Int).toNat < n - ((k : Nat) : Int).toNat := by
              rw [Int.toNat_natCast, Int.toNat_natCast]
              exact Nat.sub_lt_sub_left HLT.out (Nat.lt_succ_self k)
            first | exact hm | (rw [hw3]; exact hm)
          case rel =>
            refine ⟨k + 1, HLT.out, by first | rw [hw3] | rfl, ⟨?_⟩, ⟨HKk.out.set (p := ⟨pg i, k, none⟩) (HRk.out.okp i (by rw [mod_len]; exact HIN.out)) _⟩⟩
            rw [← clr_step (rebump s i) i k B.pages.length (rebumpB HBk.out) HBKk.out]
            exact HRk.out.setP i k (by rw [mod_len]; exact HIN.out) (.slice none 0 0) [] (Kd.R_nil _ _ _ _ _)
        · have he : k = n := by omega
          subst he
          have hnn : ¬ (((k : Nat) : Int) < (k : Int)) := by omega
          clear hlt hk
          obtain ⟨b4, x4, y4, -, e1, -, -⟩ := rcell4 HRk.out (modB (clrB k) (fun b => clr_len _ _ _) (rebumpB HBk.out))
          have ep := (rten HRk.out).1.2.1
          have ep' : wr.cell? ⟨g, 1, none⟩ = some (.int .i64 s.pages) := ep
          have f1 : wr.frozen? ⟨h, i * 4 + 1, none⟩ = false := blk_frozen HRk.out.hh _
          have hgh := HRk.out.gh
          clear ep
          go_upto_region 23 with fail
          obtain ⟨w7, hw7⟩ : ∃ w7, wr.setCell ⟨h, i * 4 + 1, none⟩ (.int .i64 s.pages) = w7 := ⟨_, rfl⟩
          have hR7 : ∃ cs7, RRep w7 base ok g h cap cs7 pg (((rebump s i).mod i (clrB k)).mod i (setN s.pages)) := by
            rw [← hw7]
            exact ⟨_, HRk.out.setH i 1 (by rw [mod_len]; exact HIN.out) (by decide) (setN s.pages) (fun _ => rfl) _ (fun b hb => by simp [setN]) (fun b hb => by simp [setN]) (fun b hb => by simp [setN])⟩
          have HK7 : Aside0 (Kp ok w w7) := ⟨by rw [← hw7]; exact HKk.out.set (p := ⟨h, i * 4 + 1, none⟩) HRk.out.okh _⟩
          obtain ⟨cs7, hr7⟩ := hR7
          have HR7 := Aside0.mk hr7
          rw [hw7]
          clear hw7 hr7 HRk HKk e1 ep' f1
          have ep : w7.cell? ⟨g, 1, none⟩ = some (.int .i64 s.pages) := (rten HR7.out).1.2.1
          have c6 := (rten HR7.out).2.1.2.1
          have f6 := (rten HR7.out).2.2 6
          have dge : decide ((k : Int) ≥ s.pages) = false := decide_eq_false (by have := HNP.out; omega)
          have dge' : decide (s.pages ≤ (k : Int)) = false := decide_eq_false (by have := HNP.out; omega)
          go_wp2_with fail
          go_ret
          rw [rerS_k HC0.out HKP.out HNE.out]
          exact ⟨rfl, rnow_G HR7.out HK7.out 6 _ (by simp [Chp.rcells]) rfl { HR7.out.inv with }⟩
    · obtain ⟨n, hn⟩ : ∃ n : Nat, (n : Int) = s.pages := ⟨s.pages.toNat, by have := HPG.out; omega⟩
      have HKP := Aside0.mk hkp
      have HNE := Aside0.mk hn
      have HN : Aside0 (n ≤ B.pages.length ∧ n ≤ 32) := ⟨by have := HPG.out; omega⟩
      have HNP : Aside0 ((n : Int) = s.pages) := ⟨hn⟩
      have hmin : (if s.pages < s.keep then s.pages else s.keep) = (n : Int) := by split <;> omega
      have HMIN := Aside0.mk hmin
      clear hkp hn hmin
      go_upto_region 16 with fail
      have hmin := HMIN.out
      refine start_ (n := 10) (S := fun w' => w'.cell? ⟨g, 5, none⟩ = some (.int .i64 s.keep) ∧ w'.cell? ⟨g, 1, none⟩ = some (.int .i64 s.pages)) (ds := []) #[false, false, false, false, false, false, false, false, false, false] (by kernel_rfl) rfl rfl (rminHeld HR5.out rfl rfl (below_drew (Below.refl _ _))) (fun hHeld => ?_)
      refine with_tabW reg_rerase_16.tab reg_rerase_16.bits (fun HT_ HW_ => ?_)
      refine pure_ (i := 0) (N := (some 79)) (v := ?_) (a' := ?_) #[true, false, false, false, false, false, false, false, false, false] rfl rfl (any_of HT_.out (by kernel_rfl)) (fun _ _ _ h => h) (Or.inl ⟨by rfl, ?_⟩) ?_ ?_
      rotate_left
      · intro w'
        go_simp
        first | done | with_reducible rfl
      rotate_left
      · simp only [Act.put, List.setIfInBounds_toArray, List.set_cons_zero, List.set_cons_succ, i64_w, i32_w]
        rfl
      refine pure_ (i := 1) (N := (some 80)) (v := ?_) (a' := ?_) #[true, true, false, false, false, false, false, false, false, false] rfl rfl (any_of HT_.out (by kernel_rfl)) (fun _ _ _ h => h) (Or.inl ⟨by rfl, ?_⟩) ?_ ?_
      rotate_left
      · intro w'
        go_simp
        first | done | with_reducible rfl
      rotate_left
      · simp only [Act.put, List.setIfInBounds_toArray, List.set_cons_zero, List.set_cons_succ, i64_w, i32_w]
        rfl
      refine pure_ (i := 2) (N := (some 81)) (v := ?_) (a' := ?_) #[true, true, true, false, false, false, false, false, false, false] rfl rfl (any_of HT_.out (by kernel_rfl)) (fun _ _ _ h => h) (Or.inl ⟨by rfl, ?_⟩) ?_ ?_
      rotate_left
      · intro w'
        go_simp
        first | done | with_reducible rfl
      rotate_left
      · simp only [Act.put, List.setIfInBounds_toArray, List.set_cons_zero, List.set_cons_succ, i64_w, i32_w]
        rfl
      refine take_ (i := 3) (N := (some 82)) (v := ?_) (a' := ?_) #[true, true, true, true, false, false, false, false, false, false] rfl rfl (take_ofW HT_.out HW_.out (by kernel_rfl)) (fun _ _ _ h => h) (Or.inl ⟨by rfl, ?_⟩) hHeld ?_ ?_
      rotate_left
      · rintro w' ⟨s0, s1⟩
        go_simp
        first | done | with_reducible rfl
      rotate_left
      · simp only [Act.put, List.setIfInBounds_toArray, List.set_cons_zero, List.set_cons_succ, i64_w, i32_w]
        rfl
      refine pure_ (i := 4) (N := (some 83)) (v := ?_) (a' := ?_) #[true, true, true, true, true, false, false, false, false, false] rfl rfl (any_of HT_.out (by kernel_rfl)) (fun _ _ _ h => h) (Or.inl ⟨by rfl, ?_⟩) ?_ ?_
      rotate_left
      · intro w'
        go_simp
        first | done | with_reducible rfl
      rotate_left
      · simp only [Act.put, List.setIfInBounds_toArray, List.set_cons_zero, List.set_cons_succ, i64_w, i32_w]
        rfl
      refine pure_ (i := 5) (N := (some 84)) (v := ?_) (a' := ?_) #[true, true, true, true, true, true, false, false, false, false] rfl rfl (any_of HT_.out (by kernel_rfl)) (fun _ _ _ h => h) (Or.inl ⟨by rfl, ?_⟩) ?_ ?_
      rotate_left
      · intro w'
        go_simp
        first | done | with_reducible rfl
      rotate_left
      · simp only [Act.put, List.setIfInBounds_toArray, List.set_cons_zero, List.set_cons_succ, i64_w, i32_w]
        rfl
      refine pure_ (i := 6) (N := (some 85)) (v := ?_) (a' := ?_) #[true, true, true, true, true, true, true, false, false, false] rfl rfl (any_of HT_.out (by kernel_rfl)) (fun _ _ _ h => h) (Or.inl ⟨by rfl, ?_⟩) ?_ ?_
      rotate_left
      · intro w'
        go_simp
        first | done | with_reducible rfl
      rotate_left
      · simp only [Act.put, List.setIfInBounds_toArray, List.set_cons_zero, List.set_cons_succ, i64_w, i32_w]
        rfl
      refine take_ (i := 7) (N := (some 86)) (v := ?_) (a' := ?_) #[true, true, true, true, true, true, true, true, false, false] rfl rfl (take_ofW HT_.out HW_.out (by kernel_rfl)) (fun _ _ _ h => h) (Or.inl ⟨by rfl, ?_⟩) hHeld ?_ ?_
      rotate_left
      · rintro w' ⟨s0, s1⟩
        go_simp
        first | done | with_reducible rfl
      rotate_left
      · simp only [Act.put, List.setIfInBounds_toArray, List.set_cons_zero, List.set_cons_succ, i64_w, i32_w]
        rfl
      refine pure_ (i := 8) (N := (some 87)) (v := ?_) (a' := ?_) #[true, true, true, true, true, true, true, true, true, false] rfl rfl (any_of HT_.out (by kernel_rfl)) (fun _ _ _ h => h) (Or.inl ⟨by rfl, ?_⟩) ?_ ?_
      rotate_left
      · intro w'
        go_simp
        first | done | with_reducible rfl
      rotate_left
      · simp only [Act.put, List.setIfInBounds_toArray, List.set_cons_zero, List.set_cons_succ, i64_w, i32_w]
        rfl
      refine pure_ (i := 9) (N := (some 8)) (v := ?_) (a' := ?_) #[true, true, true, true, true, true, true, true, true, true] rfl rfl (any_of HT_.out (by kernel_rfl)) (fun _ _ _ h => h) (Or.inl ⟨by rfl, ?_⟩) ?_ ?_
      rotate_left
      · intro w'
        go_simp
        first | done | with_reducible rfl
      rotate_left
      · simp only [Act.put, List.setIfInBounds_toArray, List.set_cons_zero, List.set_cons_succ, i64_w, i32_w]
        rfl
      refine done_ (done_of HT_.out (by kernel_rfl)) ?_
      clear hHeld HT_ HW_ ep
      have HRL := Aside0.mk (HR5.out.below (below_drew (Below.refl _ w5)))
      have HKL := Aside0.mk (HK5.out.below (below_drew (Below.refl _ w5)))
      go_wp2_with fail
      go_loopw [89] (fun v89 wr => ∃ k : Nat, k ≤ n ∧ v89 = .int .i64 (k : Int) ∧ Aside0 (RRep wr base ok g h cap cs2 pg ((rebump s i).mod i (clrB k))) ∧ Aside0 (Kp ok w wr)) (fun v89 _ => n - (intOf v89).toNat)
      case atStart => exact ⟨0, Nat.zero_le _, rfl, ⟨by rw [clr_zero]; exact HRL.out⟩, HKL⟩
      case round =>
        clear HRL HKL
        obtain ⟨k, hk, rfl, HRk, HKk⟩ := hrel
        by_cases hlt : k < n
        · have hlt2 : (k : Int) < (n : Int) := by omega
          have HLT := Aside0.mk hlt
          have hw3 : wrap64 ((k : Int) + 1) = ((k + 1 : Nat) : Int) := by rw [show (k : Int) + 1 = ((k + 1 : Nat) : Int) by omega]; exact rwrap (by omega) (by have := HN.out; omega)
          have hBk := modB (clrB k) (fun b => clr_len _ _ _) (rebumpB HBk.out)
          obtain ⟨b4, x4, y4, -, -, -, e3⟩ := rcell4 HRk.out hBk
          obtain ⟨⟨v4, hv4⟩, fz4⟩ := rpageW HRk.out hBk (show k < B.pages.length by have := HN.out; omega)
          have hkn : (k : Int) < (B.pages.length : Int) := by have := HN.out; omega
          have HBKk := Aside0.mk (show k < B.pages.length by have := HN.out; omega)
          clear hk hlt hBk
          go_wp2_with fail
          go_roundw
          case measure =>
            have hm : n - ((k + 1 : Nat) : Int).toNat < n - ((k : Nat) : Int).toNat := by
              rw [Int.toNat_natCast, Int.toNat_natCast]
              exact Nat.sub_lt_sub_left HLT.out (Nat.lt_succ_self k)
            first | exact hm | (rw [hw3]; exact hm)
          case rel =>
            refine ⟨k + 1, HLT.out, by first | rw [hw3] | rfl, ⟨?_⟩, ⟨HKk.out.set (p := ⟨pg i, k, none⟩) (HRk.out.okp i (by rw [mod_len]; exact HIN.out)) _⟩⟩
            rw [← clr_step (rebump s i) i k B.pages.length (rebumpB HBk.out) HBKk.out]
            exact HRk.out.setP i k (by rw [mod_len]; exact HIN.out) (.slice none 0 0) [] (Kd.R_nil _ _ _ _ _)
        · have he : k = n := by omega
          subst he
          have hnn : ¬ (((k : Nat) : Int) < (k : Int)) := by omega
          clear hlt hk
          obtain ⟨b4, x4, y4, -, e1, -, -⟩ := rcell4 HRk.out (modB (clrB k) (fun b => clr_len _ _ _) (rebumpB HBk.out))
          have ep := (rten HRk.out).1.2.1
          have ep' : wr.cell? ⟨g, 1, none⟩ = some (.int .i64 s.pages) := ep
          have f1 : wr.frozen? ⟨h, i * 4 + 1, none⟩ = false := blk_frozen HRk.out.hh _
          have hgh := HRk.out.gh
          clear ep
          go_upto_region 23 with fail
          obtain ⟨w7, hw7⟩ : ∃ w7, wr.setCell ⟨h, i * 4 + 1, none⟩ (.int .i64 s.pages) = w7 := ⟨_, rfl⟩
          have hR7 : ∃ cs7, RRep w7 base ok g h cap cs7 pg (((rebump s i).mod i (clrB k)).mod i (setN s.pages)) := by
            rw [← hw7]
            exact ⟨_, HRk.out.setH i 1 (by rw [mod_len]; exact HIN.out) (by decide) (setN s.pages) (fun _ => rfl) _ (fun b hb => by simp [setN]) (fun b hb => by simp [setN]) (fun b hb => by simp [setN])⟩
          have HK7 : Aside0 (Kp ok w w7) := ⟨by rw [← hw7]; exact HKk.out.set (p := ⟨h, i * 4 + 1, none⟩) HRk.out.okh _⟩
          obtain ⟨cs7, hr7⟩ := hR7
          have HR7 := Aside0.mk hr7
          rw [hw7]
          clear hw7 hr7 HRk HKk e1 ep' f1
          have ep : w7.cell? ⟨g, 1, none⟩ = some (.int .i64 s.pages) := (rten HR7.out).1.2.1
          have c6 := (rten HR7.out).2.1.2.1
          have f6 := (rten HR7.out).2.2 6
          obtain ⟨b5, x5, y5, -, e1, -, -⟩ := rcell4 HR7.out (modB _ (fun _ => rfl) (modB (clrB k) (fun b => clr_len _ _ _) (rebumpB HBk.out)))
          have f1 : w7.frozen? ⟨h, i * 4 + 1, none⟩ = false := blk_frozen HR7.out.hh _
          have dge : decide ((k : Int) ≥ s.pages) = true := decide_eq_true (by have := HNP.out; omega)
          have dge' : decide (s.pages ≤ (k : Int)) = true := decide_eq_true (by have := HNP.out; omega)
          go_upto_region 25 with fail
          obtain ⟨w8, hw8⟩ : ∃ w8, w7.setCell ⟨h, i * 4 + 1, none⟩ (.int .i64 0) = w8 := ⟨_, rfl⟩
          have hR8 : ∃ cs8, RRep w8 base ok g h cap cs8 pg (((rebump s i).mod i (clrB k)).mod i (setN 0)) := by
            rw [← hw8, ← setN_setN ((rebump s i).mod i (clrB k)) i s.pages 0]
            exact ⟨_, HR7.out.setH i 1 (by rw [mod_len, mod_len]; exact HIN.out) (by decide) (setN 0) (fun _ => rfl) _ (fun b hb => by simp [setN]) (fun b hb => by simp [setN]) (fun b hb => by simp [setN])⟩
          have HK8 : Aside0 (Kp ok w w8) := ⟨by rw [← hw8]; exact HK7.out.set (p := ⟨h, i * 4 + 1, none⟩) HR7.out.okh _⟩
          obtain ⟨cs8, hr8⟩ := hR8
          have HR8 := Aside0.mk hr8
          rw [hw8]
          clear hw8 hr8 HR7 HK7 e1 ep f1 dge dge' c6 f6
          have c6 := (rten HR8.out).2.1.2.1
          have f6 := (rten HR8.out).2.2 6
          go_wp2_with fail
          go_ret
          rw [rerS_p HC0.out (by have := HKP.out; omega) HNE.out]
          exact ⟨rfl, rnow_G HR8.out HK8.out 6 _ (by simp [Chp.rcells]) rfl { HR8.out.inv with }⟩
  | false =>
    have HC0 : Aside0 (s.cut ≠ 1) := ⟨by simpa using HBC.out⟩
    cases bw with
    | true =>
      have HW0 : Aside0 (s.worn = 1) := ⟨by simpa using HBW.out⟩
      obtain ⟨b9, x9, y9, c9, -⟩ := rcell4 HR5.out (rebumpB HBk.out)
      have f9 : w5.frozen? ⟨h, i * 4, none⟩ = false := blk_frozen HR5.out.hh _
      go_wp2_with fail
      go_ret
      rw [rerS_w HC0.out HW0.out]
      exact ⟨rfl, ⟨_, _, _, _, HR5.out.setH i 0 HIN.out (by decide) badB (fun _ => rfl) (.bool true) (fun b hb => by simp [badB]) (fun b hb => by simp [badB]) (fun b hb => by simp [badB])⟩, HK5.out.set (p := ⟨h, i * 4, none⟩) HR5.out.okh _⟩
    | false =>
      have HW0 : Aside0 (s.worn ≠ 1) := ⟨by simpa using HBW.out⟩
      obtain ⟨n, hn⟩ : ∃ n : Nat, (n : Int) = s.pages := ⟨s.pages.toNat, by have := HPG.out; omega⟩
      have HNE := Aside0.mk hn
      have HN : Aside0 (n ≤ B.pages.length ∧ n ≤ 32) := ⟨by have := HPG.out; omega⟩
      have HNP : Aside0 ((n : Int) = s.pages) := ⟨hn⟩
      have ep : w5.cell? ⟨g, 1, none⟩ = some (.int .i64 (n : Int)) := by rw [hn]; exact (rten HR5.out).1.2.1
      have HRL := Aside0.mk HR5.out
      have HKL := Aside0.mk HK5.out
      clear hn
      go_wp2_with fail
      go_loopw [89] (fun v89 wr => ∃ k : Nat, k ≤ n ∧ v89 = .int .i64 (k : Int) ∧ Aside0 (RRep wr base ok g h cap cs2 pg ((rebump s i).mod i (clrB k))) ∧ Aside0 (Kp ok w wr)) (fun v89 _ => n - (intOf v89).toNat)
      case atStart => exact ⟨0, Nat.zero_le _, rfl, ⟨by rw [clr_zero]; exact HRL.out⟩, HKL⟩
      case round =>
        clear HRL HKL
        obtain ⟨k, hk, rfl, HRk, HKk⟩ := hrel
        by_cases hlt : k < n
        · have hlt2 : (k : Int) < (n : Int) := by omega
          have HLT := Aside0.mk hlt
          have hw3 : wrap64 ((k : Int) + 1) = ((k + 1 : Nat) : Int) := by rw [show (k : Int) + 1 = ((k + 1 : Nat) : Int) by omega]; exact rwrap (by omega) (by have := HN.out; omega)
          have hBk := modB (clrB k) (fun b => clr_len _ _ _) (rebumpB HBk.out)
          obtain ⟨b4, x4, y4, -, -, -, e3⟩ := rcell4 HRk.out hBk
          obtain ⟨⟨v4, hv4⟩, fz4⟩ := rpageW HRk.out hBk (show k < B.pages.length by have := HN.out; omega)
          have hkn : (k : Int) < (B.pages.length : Int) := by have := HN.out; omega
          have HBKk := Aside0.mk (show k < B.pages.length by have := HN.out; omega)
          clear hk hlt hBk
          go_wp2_with fail
          go_roundw
          case measure =>
            have hm : n - ((k + 1 : Nat) : Int).toNat < n - ((k : Nat) : Int).toNat := by
              rw [Int.toNat_natCast, Int.toNat_natCast]
              exact Nat.sub_lt_sub_left HLT.out (Nat.lt_succ_self k)
            first | exact hm | (rw [hw3]; exact hm)
          case rel =>
            refine ⟨k + 1, HLT.out, by first | rw [hw3] | rfl, ⟨?_⟩, ⟨HKk.out.set (p := ⟨pg i, k, none⟩) (HRk.out.okp i (by rw [mod_len]; exact HIN.out)) _⟩⟩
            rw [← clr_step (rebump s i) i k B.pages.length (rebumpB HBk.out) HBKk.out]
            exact HRk.out.setP i k (by rw [mod_len]; exact HIN.out) (.slice none 0 0) [] (Kd.R_nil _ _ _ _ _)
        · have he : k = n := by omega
          subst he
          have hnn : ¬ (((k : Nat) : Int) < (k : Int)) := by omega
          clear hlt hk
          obtain ⟨b4, x4, y4, -, e1, -, -⟩ := rcell4 HRk.out (modB (clrB k) (fun b => clr_len _ _ _) (rebumpB HBk.out))
          have ep := (rten HRk.out).1.2.1
          have ep' : wr.cell? ⟨g, 1, none⟩ = some (.int .i64 s.pages) := ep
          have f1 : wr.frozen? ⟨h, i * 4 + 1, none⟩ = false := blk_frozen HRk.out.hh _
          have hgh := HRk.out.gh
          clear ep
          go_upto_region 23 with fail
          obtain ⟨w7, hw7⟩ : ∃ w7, wr.setCell ⟨h, i * 4 + 1, none⟩ (.int .i64 s.pages) = w7 := ⟨_, rfl⟩
          have hR7 : ∃ cs7, RRep w7 base ok g h cap cs7 pg (((rebump s i).mod i (clrB k)).mod i (setN s.pages)) := by
            rw [← hw7]
            exact ⟨_, HRk.out.setH i 1 (by rw [mod_len]; exact HIN.out) (by decide) (setN s.pages) (fun _ => rfl) _ (fun b hb => by simp [setN]) (fun b hb => by simp [setN]) (fun b hb => by simp [setN])⟩
          have HK7 : Aside0 (Kp ok w w7) := ⟨by rw [← hw7]; exact HKk.out.set (p := ⟨h, i * 4 + 1, none⟩) HRk.out.okh _⟩
          obtain ⟨cs7, hr7⟩ := hR7
          have HR7 := Aside0.mk hr7
          rw [hw7]
          clear hw7 hr7 HRk HKk e1 ep' f1
          have ep : w7.cell? ⟨g, 1, none⟩ = some (.int .i64 s.pages) := (rten HR7.out).1.2.1
          have c6 := (rten HR7.out).2.1.2.1
          have f6 := (rten HR7.out).2.2 6
          obtain ⟨b5, x5, y5, -, e1, -, -⟩ := rcell4 HR7.out (modB _ (fun _ => rfl) (modB (clrB k) (fun b => clr_len _ _ _) (rebumpB HBk.out)))
          have f1 : w7.frozen? ⟨h, i * 4 + 1, none⟩ = false := blk_frozen HR7.out.hh _
          have dge : decide ((k : Int) ≥ s.pages) = true := decide_eq_true (by have := HNP.out; omega)
          have dge' : decide (s.pages ≤ (k : Int)) = true := decide_eq_true (by have := HNP.out; omega)
          go_upto_region 25 with fail
          obtain ⟨w8, hw8⟩ : ∃ w8, w7.setCell ⟨h, i * 4 + 1, none⟩ (.int .i64 0) = w8 := ⟨_, rfl⟩
          have hR8 : ∃ cs8, RRep w8 base ok g h cap cs8 pg (((rebump s i).mod i (clrB k)).mod i (setN 0)) := by
            rw [← hw8, ← setN_setN ((rebump s i).mod i (clrB k)) i s.pages 0]
            exact ⟨_, HR7.out.setH i 1 (by rw [mod_len, mod_len]; exact HIN.out) (by decide) (setN 0) (fun _ => rfl) _ (fun b hb => by simp [setN]) (fun b hb => by simp [setN]) (fun b hb => by simp [setN])⟩
          have HK8 : Aside0 (Kp ok w w8) := ⟨by rw [← hw8]; exact HK7.out.set (p := ⟨h, i * 4 + 1, none⟩) HR7.out.okh _⟩
          obtain ⟨cs8, hr8⟩ := hR8
          have HR8 := Aside0.mk hr8
          rw [hw8]
          clear hw8 hr8 HR7 HK7 e1 ep f1 dge dge' c6 f6
          have c6 := (rten HR8.out).2.1.2.1
          have f6 := (rten HR8.out).2.2 6
          go_wp2_with fail
          go_ret
          rw [rerS_n HC0.out HW0.out HNE.out]
          exact ⟨rfl, ⟨_, _, _, _, HR8.out⟩, HK8.out⟩
set_option maxHeartbeats 8000000 in
set_option maxRecDepth 100000 in
/-- Erase. -/
theorem rerase {w : World} {base : Nat} {ok : Nat → Prop} {g : Nat} {s : Chp} (hI : IsRef w base ok g s) (b : Int) :
    Calls Try.prog 26 #[.pointer (some ⟨g, 0, none⟩), .int .i64 b] w fun e w' => e = .returned (.int .i64 (reraseS s b).2) ∧ RNow w base ok g (reraseS s b).1 w' := by
  cases hx : hasB s b with
  | false =>
    unfold reraseS
    rw [if_neg (by rw [hx]; decide)]
    exact rer_arg hI b hx
  | true =>
    obtain ⟨i, B, rfl, hB, hi⟩ := has_at hx
    unfold reraseS
    rw [if_pos hx]
    simp only [Int.toNat_natCast, hB]
    by_cases hd : s.down = true
    · rw [if_pos hd]
      exact rer_down hI i B hB hi hd
    · rw [if_neg hd]
      by_cases hb : B.bad = true
      · rw [if_pos hb]
        exact rer_bad hI i B hB hi (by simpa using hd) hb
      · rw [if_neg hb]
        exact rer_go hI i B hB hi (by simpa using hd) (by simpa using hb)
end Go.Proofs.Ytloldgiggnhemaa.Cm
