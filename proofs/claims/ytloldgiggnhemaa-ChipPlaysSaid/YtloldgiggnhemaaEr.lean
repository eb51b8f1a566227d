import Derived.Test.YtloldgiggnhemaaPg
import Derived.Lib.SliceRun
set_option linter.unusedVariables false
set_option linter.unusedSimpArgs false
/-! The chip's Erase. -/
namespace Go.Proofs.Ytloldgiggnhemaa.Cm
open Go.RowKit Go.Proofs.YtloldgiggnhemaaW.PrintWords Go.Proofs.YtloldgiggnhemaaW.PrintLast Go.Proofs.YtloldgiggnhemaaW.PrintMore Go.Proofs.Ytloldgiggnhemaa.Kp Go.Proofs.Ytloldgiggnhemaa.Cp
attribute [local go_sem] max2_int min2_int max_two min_two max_three min_three max_four min_four

def countB (B : Blk) : Blk := { B with count := wrap64 (B.count + 1) }
/-- The pages from o on, n of them, are emptied. -/
def clr (o : Nat) : Nat → List (List Int) → List (List Int)
  | 0, l => l
  | n + 1, l => clr (o + 1) n (l.set o [])
def clrB (n : Nat) (B : Blk) : Blk := { B with pages := clr 0 n B.pages }
def setN (x : Int) (B : Blk) : Blk := { B with next := x }
theorem clr_len : ∀ (n o : Nat) (l : List (List Int)), (clr o n l).length = l.length
  | 0, _, _ => rfl
  | n + 1, o, l => by rw [clr, clr_len]; simp
theorem clr_get : ∀ (n o : Nat) (l : List (List Int)) (j : Nat), (clr o n l)[j]? = if o ≤ j ∧ j < o + n ∧ j < l.length then some [] else l[j]?
  | 0, o, l, j => by rw [clr, if_neg (by omega)]
  | n + 1, o, l, j => by
    rw [clr, clr_get n (o + 1) _ j, List.length_set, List.getElem?_set]
    by_cases e : o = j
    · subst e
      rw [if_neg (by omega), if_pos rfl]
      by_cases h : o < l.length
      · rw [if_pos h, if_pos ⟨by omega, by omega, h⟩]
      · rw [if_neg h, if_neg (by omega), List.getElem?_eq_none (by omega)]
    · rw [if_neg e]
      by_cases h : o + 1 ≤ j ∧ j < o + 1 + n ∧ j < l.length
      · rw [if_pos h, if_pos (by omega)]
      · rw [if_neg h, if_neg (by omega)]
theorem clr_all (l : List (List Int)) : clr 0 l.length l = List.replicate l.length [] := by
  apply List.ext_getElem?
  intro j
  rw [clr_get]
  by_cases h : j < l.length
  · rw [if_pos ⟨by omega, by omega, h⟩, List.getElem?_replicate, if_pos h]
  · rw [if_neg (by omega), List.getElem?_eq_none (by omega), List.getElem?_eq_none (by simp; omega)]
def ebump (s : Chp) (i : Nat) : Chp := { s.mod i countB with be := wrap64 (s.be + 1), cut := dec s.cut, worn := dec s.worn }
/-- An erase that is tried. -/
def erS (s : Chp) (i : Nat) : Chp × Int :=
  if s.cut = 0 then
    if s.keep < s.pages then ({ ((ebump s i).mod i (clrB s.keep.toNat)).mod i (setN s.pages) with down := true }, 2)
    else ({ ((ebump s i).mod i (clrB s.pages.toNat)).mod i (setN 0) with down := true }, 2)
  else if s.worn = 0 then ((ebump s i).mod i badB, 3)
  else (((ebump s i).mod i (clrB s.pages.toNat)).mod i (setN 0), 0)
/-- What Erase does: the chip, the answer. -/
def eraseS (s : Chp) (b : Int) : Chp × Int :=
  if hasB s b = true then
    if s.down = true then (s, 2) else
    match s.blocks[b.toNat]? with
    | none => (s, 1)
    | some B => if B.bad = true then (s, 3) else erS s b.toNat
  else (s, 1)
theorem has_at {s : Chp} {b : Int} (h : hasB s b = true) : ∃ (i : Nat) (B : Blk), b = i ∧ s.blocks[i]? = some B ∧ i < s.blocks.length := by
  unfold hasB at h
  simp only [Bool.and_eq_true, decide_eq_true_eq] at h
  have hi : b.toNat < s.blocks.length := by omega
  exact ⟨b.toNat, _, by omega, List.getElem?_eq_getElem hi, hi⟩
theorem mod_mod (s : Chp) (i : Nat) (f f' : Blk → Blk) : (s.mod i f).mod i f' = s.mod i (fun b => f' (f b)) := by
  simp only [Chp.mod]
  congr 1
  apply List.ext_getElem?
  intro j
  simp only [List.getElem?_modify]
  by_cases e : i = j
  · simp [e]
    rfl
  · simp [e]
theorem mod_id (s : Chp) (i : Nat) : s.mod i (fun b => b) = s := by
  simp only [Chp.mod]
  have : s.blocks.modify i (fun b => b) = s.blocks := by
    apply List.ext_getElem?
    intro j
    simp only [List.getElem?_modify]
    split <;> simp
  rw [this]
/-- The pages of a block are emptied, one by one. -/
theorem setsP : ∀ (n o : Nat) {W : World} {base : Nat} {ok : Nat → Prop} {g h cap : Nat} {cs : Array Value} {pg : Nat → Nat} {s : Chp} (r : Rep W base ok g h cap cs pg s) (i : Nat) (hi : i < s.blocks.length),
    Rep (W.setCells (pg i) o (List.replicate n (.slice none 0 0))) base ok g h cap cs pg (s.mod i fun B => { B with pages := clr o n B.pages })
  | 0, o, W, base, ok, g, h, cap, cs, pg, s, r, i, hi => by
    simp only [clr]
    have : (s.mod i fun B => { B with pages := B.pages }) = s := mod_id s i
    rw [this]
    exact r
  | n + 1, o, W, base, ok, g, h, cap, cs, pg, s, r, i, hi => by
    rw [List.replicate_succ]
    show Rep ((W.setCell ⟨pg i, o, none⟩ (.slice none 0 0)).setCells (pg i) (o + 1) _) _ _ _ _ _ _ _ _
    have h1 := setsP n (o + 1) (r.setP i o hi (.slice none 0 0) [] (Kd.R_nil _ _ _ _ _)) i (by rw [mod_len]; exact hi)
    rw [mod_mod] at h1
    exact h1
theorem kpSets {S : Nat → Prop} {w : World} {b : Nat} (hb : S b) : ∀ (vs : List Value) (o : Nat) {w1 : World}, Kp S w w1 → Kp S w (w1.setCells b o vs)
  | [], _, _, h => h
  | v :: vs, o, w1, h => kpSets hb vs (o + 1) (h.set (p := ⟨b, o, none⟩) hb v)
theorem infoY : (Try.prog.info? 22).map (fun i => (i.zero, i.size, i.bytes)) = some (some (.slice none 0 0), 1, 24) := by kernel_rfl
theorem zeroY : ∀ w, (zeroValue 22).run Try.prog w = .ok (.slice none 0 0) w := by
  intro w
  obtain ⟨i5, hi5, hz5, hs5, hb5⟩ := info_parts infoY
  simp [zeroValue, typeInfo, hi5, hz5]
theorem clear_row {W : World} {base : Nat} {ok : Nat → Prop} {g h cap : Nat} {cs : Array Value} {pg : Nat → Nat} {s : Chp} (r : Rep W base ok g h cap cs pg s) {i : Nat} {B : Blk} (hB : s.blocks[i]? = some B) (n c : Nat) (hn : n ≤ B.pages.length) (ty : TypeId) :
    (Builtin.clear_ #[34] ty #[.slice (some ⟨pg i, 0, none⟩) n c]).run Try.prog W = .ok (.tuple #[]) (W.setCells (pg i) 0 (List.replicate n (.slice none 0 0))) := by
  obtain ⟨ps, h1, h2⟩ := r.pgs i B hB
  by_cases h0 : n = 0
  · subst h0
    have ht : Try.prog.underlying 34 = some (.slice 22) := Try.underlying34
    simp [Builtin.clear_, run_underlying ht, World.setCells]
  · refine Lib.run_clear_slice W 34 22 ty (.slice none 0 0) Try.underlying34 zeroY rfl rfl (pg i) 0 n c (by omega) (fun j hj => ?_) (fun j hj => ?_)
    · rw [Nat.zero_add, blk_cell h1]
      obtain ⟨v, h3, -⟩ := h2 j _ (List.getElem?_eq_getElem (by omega))
      rw [h3]
      rfl
    · exact blk_frozen h1 _
def reg_erase_10.T : Bool × List (List Nat × List Nat) := (true, [([], []), ([0], [0]), ([1], [1]), ([2], [2]), ([], []), ([4], [4]), ([5], [5]), ([6, 3], [6]), ([3, 7, 0, 1, 2, 3], [3]), ([7, 8, 0, 1, 2, 3, 4, 5, 6, 7, 8], [7])])
def reg_erase_10.B : List Nat := [0, 1, 3, 7, 0, 16, 48, 127, 255, 511]
theorem reg_erase_10.tab : rtab .any (opsOf Try.f17 10) = reg_erase_10.T := by kernel_rfl
theorem reg_erase_10.bits : waitsOk reg_erase_10.T.2 reg_erase_10.B = true := by kernel_rfl
def reg_erase_16.T : Bool × List (List Nat × List Nat) := (true, [([], []), ([0], [0]), ([1], [1]), ([2], [2]), ([], []), ([4], [4]), ([5], [5]), ([6], [6]), ([3, 7], [3, 7]), ([8, 0, 1, 2, 3, 4, 5, 6, 7, 8], [8])])
def reg_erase_16.B : List Nat := [0, 1, 3, 7, 0, 16, 48, 112, 255, 511]
theorem reg_erase_16.tab : rtab .any (opsOf Try.f17 16) = reg_erase_16.T := by kernel_rfl
theorem reg_erase_16.bits : waitsOk reg_erase_16.T.2 reg_erase_16.B = true := by kernel_rfl
set_option maxHeartbeats 8000000 in
set_option maxRecDepth 100000 in
theorem er_arg {w : World} {base : Nat} {ok : Nat → Prop} {g : Nat} {s : Chp} (hI : IsChip w base ok g s) (b : Int) (hs : hasB s b = false) :
    Calls Try.prog 17 #[.pointer (some ⟨g, 0, none⟩), .int .i64 b] w fun e w' => e = .returned (.int .i64 1) ∧ Now w base ok g s w' := by
  have HI := Aside0.mk hI
  have HS := Aside0.mk hs
  clear hI hs
  go_enter Try.func17, Try.ntmps17
  go_wp2_with fail
  have hcc := has HI.out b
  rw [HS.out] at hcc
  refine hcc.mono ?_
  clear hcc
  rintro ev w2 ⟨rfl, hw2⟩
  rw [hw2]
  clear hw2 w2
  go_wp2_with fail
  go_ret
  exact ⟨rfl, HI.out, Kp.refl _ _⟩
set_option maxHeartbeats 8000000 in
set_option maxRecDepth 100000 in
theorem er_down {w : World} {base : Nat} {ok : Nat → Prop} {g : Nat} {s : Chp} (hI : IsChip w base ok g s) (i : Nat) (B : Blk) (hs : hasB s (i : Int) = true) (hB : s.blocks[i]? = some B) (hi : i < s.blocks.length) (hd : s.down = true) :
    Calls Try.prog 17 #[.pointer (some ⟨g, 0, none⟩), .int .i64 (i : Int)] w fun e w' => e = .returned (.int .i64 2) ∧ Now w base ok g s w' := by
  have HI := Aside0.mk hI
  have HS := Aside0.mk hs
  have HBk := Aside0.mk hB
  have HIn := Aside0.mk hi
  have hin : ((i : Nat) : Int) < (s.blocks.length : Int) := by omega
  obtain ⟨h, cap, cs, pg, r⟩ := hI
  obtain ⟨⟨c0, c1, -, -, c4⟩, ⟨-, -, -, -, c9⟩, fz⟩ := ten r
  obtain ⟨d0, d1, d2, d3⟩ := rowCells r hB
  have f4 := fz 4
  have fh : ∀ k, w.frozen? ⟨h, k, none⟩ = false := fun k => blk_frozen r.hh _
  have hgh := r.gh
  have HR := Aside0.mk r
  clear hs hB hi r fz
  rw [hd] at c9
  clear hd
  go_enter Try.func17, Try.ntmps17
  go_wp2_with fail
  have hcc := has HI.out (i : Int)
  rw [HS.out] at hcc
  refine hcc.mono ?_
  clear hcc
  rintro ev w2 ⟨rfl, hw2⟩
  rw [hw2]
  clear hw2 w2
  go_wp2_with fail
  go_ret
  exact ⟨rfl, HI.out, Kp.refl _ _⟩
set_option maxHeartbeats 8000000 in
set_option maxRecDepth 100000 in
theorem er_bad {w : World} {base : Nat} {ok : Nat → Prop} {g : Nat} {s : Chp} (hI : IsChip w base ok g s) (i : Nat) (B : Blk) (hs : hasB s (i : Int) = true) (hB : s.blocks[i]? = some B) (hi : i < s.blocks.length) (hd : s.down = false) (hbad : B.bad = true) :
    Calls Try.prog 17 #[.pointer (some ⟨g, 0, none⟩), .int .i64 (i : Int)] w fun e w' => e = .returned (.int .i64 3) ∧ Now w base ok g s w' := by
  have HI := Aside0.mk hI
  have HS := Aside0.mk hs
  have HBk := Aside0.mk hB
  have HIn := Aside0.mk hi
  have hin : ((i : Nat) : Int) < (s.blocks.length : Int) := by omega
  obtain ⟨h, cap, cs, pg, r⟩ := hI
  obtain ⟨⟨c0, c1, -, -, c4⟩, ⟨-, -, -, -, c9⟩, fz⟩ := ten r
  obtain ⟨d0, d1, d2, d3⟩ := rowCells r hB
  have f4 := fz 4
  have fh : ∀ k, w.frozen? ⟨h, k, none⟩ = false := fun k => blk_frozen r.hh _
  have hgh := r.gh
  have HR := Aside0.mk r
  clear hs hB hi r fz
  rw [hd] at c9
  rw [hbad] at d0
  clear hd hbad
  go_enter Try.func17, Try.ntmps17
  go_wp2_with fail
  have hcc := has HI.out (i : Int)
  rw [HS.out] at hcc
  refine hcc.mono ?_
  clear hcc
  rintro ev w2 ⟨rfl, hw2⟩
  rw [hw2]
  clear hw2 w2
  go_wp2_with fail
  go_ret
  exact ⟨rfl, HI.out, Kp.refl _ _⟩
def be1 (s : Chp) : Chp := { s with be := wrap64 (s.be + 1) }
theorem erS_worn {s : Chp} {i : Nat} (h : s.cut ≠ 0) (h2 : s.worn = 0) : erS s i = ((ebump s i).mod i badB, 3) := by unfold erS; rw [if_neg h, if_pos h2]
theorem erS_ok {s : Chp} {i : Nat} (h : s.cut ≠ 0) (h2 : s.worn ≠ 0) : erS s i = (((ebump s i).mod i (clrB s.pages.toNat)).mod i (setN 0), 0) := by unfold erS; rw [if_neg h, if_neg h2]
theorem erS_cut {s : Chp} {i : Nat} (h : s.cut = 0) (h2 : s.keep < s.pages) : erS s i = ({ ((ebump s i).mod i (clrB s.keep.toNat)).mod i (setN s.pages) with down := true }, 2) := by unfold erS; rw [if_pos h, if_pos h2]
theorem erS_cutAll {s : Chp} {i : Nat} (h : s.cut = 0) (h2 : ¬ s.keep < s.pages) : erS s i = ({ ((ebump s i).mod i (clrB s.pages.toNat)).mod i (setN 0) with down := true }, 2) := by unfold erS; rw [if_pos h, if_neg h2]
theorem ebumpB {s : Chp} {i : Nat} {B : Blk} (hB : s.blocks[i]? = some B) : ∃ B', (ebump s i).blocks[i]? = some B' ∧ B'.pages.length = B.pages.length := by
  obtain ⟨B', h1, h2⟩ := modB countB (fun _ => rfl) ⟨B, hB, rfl⟩
  exact ⟨B', h1, h2⟩
theorem keepHeld {w w' : World} {base : Nat} {ok : Nat → Prop} {g h cap : Nat} {cs : Array Value} {pg : Nat → Nat} {s : Chp} {a b : Int} (r : Rep w base ok g h cap cs pg s) (ha : s.keep = a) (hb : s.pages = b) (hbe : Below w.heap.size w w') :
    w'.cell? ⟨g, 8, none⟩ = some (.int .i64 a) ∧ w'.cell? ⟨g, 1, none⟩ = some (.int .i64 b) := by
  subst ha hb
  exact ⟨pw_cell_below hbe (ten r).2.1.2.2.2.1, pw_cell_below hbe (ten r).1.2.1⟩
set_option maxHeartbeats 8000000 in
set_option maxRecDepth 100000 in
theorem er_go {w : World} {base : Nat} {ok : Nat → Prop} {g : Nat} {s : Chp} (hI : IsChip w base ok g s) (i : Nat) (B : Blk) (hs : hasB s (i : Int) = true) (hB : s.blocks[i]? = some B) (hi : i < s.blocks.length) (hd : s.down = false) (hbad : B.bad = false) :
    Calls Try.prog 17 #[.pointer (some ⟨g, 0, none⟩), .int .i64 (i : Int)] w fun e w' => e = .returned (.int .i64 (erS s i).2) ∧ Now w base ok g (erS s i).1 w' := by
  have HLB := Aside0.mk (hI.inv.len B (List.mem_of_getElem? hB))
  have HI := Aside0.mk hI
  have HS := Aside0.mk hs
  have HBk := Aside0.mk hB
  have HIn := Aside0.mk hi
  have hin : ((i : Nat) : Int) < (s.blocks.length : Int) := by omega
  obtain ⟨h, cap, cs, pg, r⟩ := hI
  obtain ⟨⟨c0, c1, -, -, c4⟩, ⟨-, -, -, -, c9⟩, fz⟩ := ten r
  obtain ⟨d0, d1, d2, d3⟩ := rowCells r hB
  have f4 := fz 4
  have fh : ∀ k, w.frozen? ⟨h, k, none⟩ = false := fun k => blk_frozen r.hh _
  have hgh := r.gh
  have HR := Aside0.mk r
  clear hs hB hi r fz
  rw [hd] at c9
  rw [hbad] at d0
  clear hd hbad
  go_enter Try.func17, Try.ntmps17
  go_wp2_with fail
  have hcc := has HI.out (i : Int)
  rw [HS.out] at hcc
  refine hcc.mono ?_
  clear hcc
  rintro ev w2 ⟨rfl, hw2⟩
  rw [hw2]
  clear hw2 w2
  go_upto_region 10 with fail
  obtain ⟨w5, hw5⟩ : ∃ w5, ((w.setCell ⟨g, 4, none⟩ (.int .i64 (wrap64 (s.be + 1)))).setCell ⟨h, i * 4 + 2, none⟩ (.int .i64 (wrap64 (B.count + 1)))) = w5 := ⟨_, rfl⟩
  have hR5 : ∃ cs5, Rep w5 base ok g h cap cs5 pg ((be1 s).mod i countB) := by
    rw [← hw5]
    refine ⟨_, (HR.out.setG (s' := be1 s) 4 _ (by simp [Chp.cells, be1]) rfl { HR.out.inv with }).setH i 2 HIn.out (by decide) countB (fun _ => rfl) _ (fun b hb => by simp [countB]) (fun b hb => by simp [countB]) (fun b hb => ?_)⟩
    have hb' : s.blocks[i]? = some b := hb
    rw [HBk.out] at hb'
    cases hb'
    simp [countB]
  have HK5 : Aside0 (Kp ok w w5) := ⟨by rw [← hw5]; exact ((Kp.refl _ _).set (p := ⟨g, 4, none⟩) HR.out.okg _).set (p := ⟨h, i * 4 + 2, none⟩) HR.out.okh _⟩
  obtain ⟨cs5, hr5⟩ := hR5
  have HR5 := Aside0.mk hr5
  rw [hw5]
  clear hw5 hr5 c0 c1 c4 c9 d0 d1 d2 d3 f4 fh hgh
  have hd5 : Below w5.heap.size w5 w5.drew := below_drew (Below.refl _ _)
  have HR6 := Aside0.mk (HR5.out.below hd5)
  have HK6 := Aside0.mk (HK5.out.below hd5)
  have HC7 : Aside0 (w5.drew.cell? ⟨g, 7, none⟩ = some (.int .i64 s.cut)) := ⟨(ten HR6.out).2.1.2.2.1⟩
  have HF7 : Aside0 (w5.drew.frozen? ⟨g, 7, none⟩ = false) := ⟨(ten HR6.out).2.2 7⟩
  clear hd5
  refine start_ (n := 10) (S := fun w' => True) (ds := []) #[false, false, false, false, false, false, false, false, false, false] (by kernel_rfl) rfl rfl trivial (fun hHeld => ?_)
  refine with_tabW reg_erase_10.tab reg_erase_10.bits (fun HT_ HW_ => ?_)
  refine pure_ (i := 0) (N := (some 45)) (v := ?_) (a' := ?_) #[true, false, false, false, false, false, false, false, false, false] rfl rfl (any_of HT_.out (by kernel_rfl)) (fun _ _ _ h => h) (Or.inl ⟨by rfl, ?_⟩) ?_ ?_
  rotate_left
  · intro w'
    go_simp
    first | done | with_reducible rfl
  rotate_left
  · simp only [Act.put, List.setIfInBounds_toArray, List.set_cons_zero, List.set_cons_succ, i64_w, i32_w]
    rfl
  refine pure_ (i := 1) (N := (some 46)) (v := ?_) (a' := ?_) #[true, true, false, false, false, false, false, false, false, false] rfl rfl (any_of HT_.out (by kernel_rfl)) (fun _ _ _ h => h) (Or.inl ⟨by rfl, ?_⟩) ?_ ?_
  rotate_left
  · intro w'
    go_simp
    first | done | with_reducible rfl
  rotate_left
  · simp only [Act.put, List.setIfInBounds_toArray, List.set_cons_zero, List.set_cons_succ, i64_w, i32_w]
    rfl
  refine pure_ (i := 2) (N := (some 47)) (v := ?_) (a' := ?_) #[true, true, true, false, false, false, false, false, false, false] rfl rfl (any_of HT_.out (by kernel_rfl)) (fun _ _ _ h => h) (Or.inl ⟨by rfl, ?_⟩) ?_ ?_
  rotate_left
  · intro w'
    go_simp
    first | done | with_reducible rfl
  rotate_left
  · simp only [Act.put, List.setIfInBounds_toArray, List.set_cons_zero, List.set_cons_succ, i64_w, i32_w]
    rfl
  refine pure_ (i := 4) (N := (some 49)) (v := ?_) (a' := ?_) #[true, true, true, false, true, false, false, false, false, false] rfl rfl (any_of HT_.out (by kernel_rfl)) (fun _ _ _ h => h) (Or.inl ⟨by rfl, ?_⟩) ?_ ?_
  rotate_left
  · intro w'
    go_simp
    first | done | with_reducible rfl
  rotate_left
  · simp only [Act.put, List.setIfInBounds_toArray, List.set_cons_zero, List.set_cons_succ, i64_w, i32_w]
    rfl
  refine pure_ (i := 5) (N := (some 50)) (v := ?_) (a' := ?_) #[true, true, true, false, true, true, false, false, false, false] rfl rfl (any_of HT_.out (by kernel_rfl)) (fun _ _ _ h => h) (Or.inl ⟨by rfl, ?_⟩) ?_ ?_
  rotate_left
  · intro w'
    go_simp
    first | done | with_reducible rfl
  rotate_left
  · simp only [Act.put, List.setIfInBounds_toArray, List.set_cons_zero, List.set_cons_succ, i64_w, i32_w]
    rfl
  refine pure_ (i := 6) (N := (some 51)) (v := ?_) (a' := ?_) #[true, true, true, false, true, true, true, false, false, false] rfl rfl (any_of HT_.out (by kernel_rfl)) (fun _ _ _ h => h) (Or.inl ⟨by rfl, ?_⟩) ?_ ?_
  rotate_left
  · intro w'
    go_simp
    first | done | with_reducible rfl
  rotate_left
  · simp only [Act.put, List.setIfInBounds_toArray, List.set_cons_zero, List.set_cons_succ, i64_w, i32_w]
    rfl
  refine one_ (i := 3) (N := (some 48)) #[true, true, true, true, true, true, true, false, false, false] rfl rfl (one_of HT_.out (by kernel_rfl)) (by decide) (fun K hK => ?_)
  refine goes_ Try.func45 (by kernel_rfl) rfl #[.pointer (some ⟨g, 7, none⟩)] (by rfl) rfl rfl (by (try simp only [List.map_toArray, List.map_cons, List.map_nil]); first | done | rfl) ?_
  with_reducible refine (comes HC7.out HF7.out).mono ?_
  rintro ev_ w7 ⟨rfl, rfl⟩
  refine ⟨_, rfl, ?_⟩
  obtain ⟨w7, hw7⟩ : ∃ w7, w5.drew.setCell ⟨g, 7, none⟩ (.int .i64 (dec s.cut)) = w7 := ⟨_, rfl⟩
  have HR7 : Aside0 (Rep w7 base ok g h cap cs5 pg { (be1 s).mod i countB with cut := dec s.cut }) := ⟨by rw [← hw7]; exact HR6.out.setG 7 _ (by simp [Chp.cells]) rfl { HR6.out.inv with c1 := (dec_range HR6.out.inv.c1 HR6.out.inv.c2).1, c2 := (dec_range HR6.out.inv.c1 HR6.out.inv.c2).2.1 }⟩
  have HK7 : Aside0 (Kp ok w w7) := ⟨by rw [← hw7]; exact HK6.out.set (p := ⟨g, 7, none⟩) HR6.out.okg _⟩
  have HC5 : Aside0 (w7.cell? ⟨g, 6, none⟩ = some (.int .i64 s.worn)) := ⟨(ten HR7.out).2.1.2.1⟩
  have HF5 : Aside0 (w7.frozen? ⟨g, 6, none⟩ = false) := ⟨(ten HR7.out).2.2 6⟩
  rw [hw7]
  clear hw7
  refine hK.out _ _ trivial (fun hHeld => ?_)
  clear hK K
  refine norm_ (a' := ?_) ?_ ?_
  rotate_left
  · show Act.put _ (some 48) _ = _
    simp only [Act.put, List.setIfInBounds_toArray, List.set_cons_zero, List.set_cons_succ, i64_w, i32_w]
    rfl
  refine one_ (i := 7) (N := (some 52)) #[true, true, true, true, true, true, true, true, false, false] rfl rfl (one_of HT_.out (by kernel_rfl)) (by decide) (fun K hK => ?_)
  refine goes_ Try.func45 (by kernel_rfl) rfl #[.pointer (some ⟨g, 6, none⟩)] (by rfl) rfl rfl (by (try simp only [List.map_toArray, List.map_cons, List.map_nil]); first | done | rfl) ?_
  with_reducible refine (comes HC5.out HF5.out).mono ?_
  rintro ev_ w8 ⟨rfl, rfl⟩
  refine ⟨_, rfl, ?_⟩
  obtain ⟨w8, hw8⟩ : ∃ w8, w7.setCell ⟨g, 6, none⟩ (.int .i64 (dec s.worn)) = w8 := ⟨_, rfl⟩
  have HR8 : Aside0 (Rep w8 base ok g h cap cs5 pg (ebump s i)) := ⟨by rw [← hw8]; exact HR7.out.setG 6 _ (by simp [Chp.cells, ebump, be1, Chp.mod]) rfl { HR7.out.inv with w1 := (dec_range HR7.out.inv.w1 HR7.out.inv.w2).1, w2 := (dec_range HR7.out.inv.w1 HR7.out.inv.w2).2.1 }⟩
  have HK8 : Aside0 (Kp ok w w8) := ⟨by rw [← hw8]; exact HK7.out.set (p := ⟨g, 6, none⟩) HR7.out.okg _⟩
  rw [hw8]
  clear hw8
  refine hK.out _ _ trivial (fun hHeld => ?_)
  clear hK K
  refine norm_ (a' := ?_) ?_ ?_
  rotate_left
  · show Act.put _ (some 52) _ = _
    simp only [Act.put, List.setIfInBounds_toArray, List.set_cons_zero, List.set_cons_succ, i64_w, i32_w]
    rfl
  refine pure_ (i := 8) (N := (some 6)) (v := ?_) (a' := ?_) #[true, true, true, true, true, true, true, true, true, false] rfl rfl (any_of HT_.out (by kernel_rfl)) (fun _ _ _ h => h) (Or.inl ⟨by rfl, ?_⟩) ?_ ?_
  rotate_left
  · intro w'
    go_simp
    first | done | with_reducible rfl
  rotate_left
  · simp only [Act.put, List.setIfInBounds_toArray, List.set_cons_zero, List.set_cons_succ, i64_w, i32_w]
    rfl
  refine pure_ (i := 9) (N := (some 7)) (v := ?_) (a' := ?_) #[true, true, true, true, true, true, true, true, true, true] rfl rfl (any_of HT_.out (by kernel_rfl)) (fun _ _ _ h => h) (Or.inl ⟨by rfl, ?_⟩) ?_ ?_
  rotate_left
  · intro w'
    go_simp
    first | done | with_reducible rfl
  rotate_left
  · simp only [Act.put, List.setIfInBounds_toArray, List.set_cons_zero, List.set_cons_succ, i64_w, i32_w]
    rfl
  refine done_ (done_of HT_.out (by kernel_rfl)) ?_
  obtain ⟨bc, hbc⟩ : ∃ b, (s.cut == 0) = b := ⟨_, rfl⟩
  obtain ⟨bf, hbf⟩ : ∃ b, (s.worn == 0) = b := ⟨_, rfl⟩
  have HBC := Aside0.mk hbc
  have HBF := Aside0.mk hbf
  rw [hbc, hbf]
  clear hbc hbf hHeld HT_ HW_ HC7 HF7 HC5 HF5 HR5 HR6 HR7 HK5 HK6 HK7
  have HB1 := Aside0.mk (ebumpB HBk.out)
  cases bc with
  | false =>
    have HC0 : Aside0 (s.cut ≠ 0) := ⟨by simpa using HBC.out⟩
    cases bf with
    | true =>
      have HF0 : Aside0 (s.worn = 0) := ⟨by simpa using HBF.out⟩
      obtain ⟨b0, c9⟩ := cell0 HR8.out HB1.out
      have fh : w8.frozen? ⟨h, i * 4, none⟩ = false := blk_frozen HR8.out.hh _
      go_wp2_with fail
      go_ret
      rw [erS_worn HC0.out HF0.out]
      have h1 := HR8.out.setH i 0 (List.getElem?_eq_some_iff.1 (ebumpB HBk.out).choose_spec.1).1 (by decide) badB (fun _ => rfl) (.bool true) (fun b hb => by simp [badB]) (fun b hb => by simp [badB]) (fun b hb => by simp [badB])
      exact ⟨rfl, ⟨_, _, _, _, h1⟩, HK8.out.set (p := ⟨h, i * 4, none⟩) HR8.out.okh _⟩
    | false =>
      have HF0 : Aside0 (s.worn ≠ 0) := ⟨by simpa using HBF.out⟩
      have c1 : w8.cell? ⟨g, 1, none⟩ = some (.int .i64 s.pages) := (ten HR8.out).1.2.1
      go_upto_region 18 with fail
      clear c1
      obtain ⟨i5, hi5, hz5, hs5, hb5⟩ := info_parts infoY
      obtain ⟨B1, hB1, hL1⟩ := HB1.out
      have hlen : (B1.pages.length : Int) = s.pages := by rw [hL1]; exact HLB.out
      have hp1 := HR.out.inv.p1
      have hk1 := HR.out.inv.k1
      have hn0 : (0 : Int) ≤ s.pages := by omega
      have hn1 : s.pages ≤ (B1.pages.length : Int) := by rw [hlen]; first | exact Int.le_refl _ | (have := HLT.out; omega)
      have hcut := cut_to (P := Try.prog) 34 22 .i64 Try.underlying34 hi5 (some ⟨pg i, 0, none⟩) B1.pages.length B1.pages.length (s.pages) hn0 hn1 (Nat.le_refl _)
      have hclr := fun ty => clear_row HR8.out hB1 (s.pages).toNat B1.pages.length (by omega) ty
      obtain ⟨-, -, -, d3⟩ := rowCells HR8.out hB1
      clear hi5 hz5 hs5 hb5 hlen hp1 hk1 hn0 hn1 hL1
      have HB1' := Aside0.mk hB1
      clear hB1
      go_upto_region 19 with fail
      obtain ⟨w13, hw13⟩ : ∃ w', (w8).setCells (pg i) 0 (List.replicate (s.pages).toNat (.slice none 0 0)) = w' := ⟨_, rfl⟩
      have hr13 : Rep w13 base ok g h cap _ pg _ := hw13 ▸ setsP (s.pages).toNat 0 HR8.out i (List.getElem?_eq_some_iff.1 HB1'.out).1
      have hk13 : Kp ok w w13 := hw13 ▸ kpSets (S := ok) (HR8.out.okp i (List.getElem?_eq_some_iff.1 HB1'.out).1) _ 0 HK8.out
      rw [hw13]
      clear hw13 hcut hclr d3
      have hB13 := modB (fun B => { B with pages := clr 0 (s.pages).toNat B.pages }) (fun B => clr_len _ _ _) ⟨B1, HB1'.out, rfl⟩
      obtain ⟨B13, hB13, -⟩ := hB13
      obtain ⟨⟨-, c1, -⟩, -, -⟩ := ten hr13
      obtain ⟨-, d1, -, -⟩ := rowCells hr13 hB13
      have c1' : w13.cell? ⟨g, 1, none⟩ = some (.int .i64 s.pages) := c1
      have fh : ∀ k, w13.frozen? ⟨h, k, none⟩ = false := fun k => blk_frozen hr13.hh _
      have hgh := hr13.gh
      have HR13 := Aside0.mk hr13
      have HK13 := Aside0.mk hk13
      clear hr13 hk13 hB13 c1
      go_wp2_with fail
      go_ret
      rw [erS_ok HC0.out HF0.out]
      have h1 := HR13.out.setH i 1 (List.getElem?_eq_some_iff.1 (modB (fun B => { B with pages := clr 0 (s.pages).toNat B.pages }) (fun B => clr_len _ _ _) ⟨B1, HB1'.out, rfl⟩).choose_spec.1).1 (by decide) (setN s.pages) (fun _ => rfl) (.int .i64 s.pages) (fun b hb => by simp [setN]) (fun b hb => by simp [setN]) (fun b hb => by simp [setN])
      have h2 := h1.setH i 1 (by rw [mod_len]; exact (List.getElem?_eq_some_iff.1 (modB (fun B => { B with pages := clr 0 (s.pages).toNat B.pages }) (fun B => clr_len _ _ _) ⟨B1, HB1'.out, rfl⟩).choose_spec.1).1) (by decide) (setN 0) (fun _ => rfl) (.int .i64 0) (fun b hb => by simp [setN]) (fun b hb => by simp [setN]) (fun b hb => by simp [setN])
      rw [mod_mod] at h2
      exact ⟨rfl, ⟨_, _, _, _, h2⟩, (HK13.out.set (p := ⟨h, i * 4 + 1, none⟩) HR13.out.okh _).set (p := ⟨h, i * 4 + 1, none⟩) HR13.out.okh _⟩
  | true =>
    have HC0 : Aside0 (s.cut = 0) := ⟨by simpa using HBC.out⟩
    have c1 : w8.cell? ⟨g, 1, none⟩ = some (.int .i64 s.pages) := (ten HR8.out).1.2.1
    go_upto_region 16 with fail
    clear c1
    by_cases hlt : s.keep < s.pages
    · have HLT := Aside0.mk hlt
      have hmn : (if s.pages < s.keep then s.pages else s.keep) = s.keep := by split <;> omega
      clear hlt
      refine start_ (n := 10) (S := fun w' => w'.cell? ⟨g, 8, none⟩ = some (.int .i64 s.keep) ∧ w'.cell? ⟨g, 1, none⟩ = some (.int .i64 s.pages)) (ds := []) #[false, false, false, false, false, false, false, false, false, false] (by kernel_rfl) rfl rfl (keepHeld HR8.out rfl rfl (below_drew (Below.refl _ _))) (fun hHeld => ?_)
      refine with_tabW reg_erase_16.tab reg_erase_16.bits (fun HT_ HW_ => ?_)
      refine pure_ (i := 0) (N := (some 66)) (v := ?_) (a' := ?_) #[true, false, false, false, false, false, false, false, false, false] rfl rfl (any_of HT_.out (by kernel_rfl)) (fun _ _ _ h => h) (Or.inl ⟨by rfl, ?_⟩) ?_ ?_
      rotate_left
      · intro w'
        go_simp
        first | done | with_reducible rfl
      rotate_left
      · simp only [Act.put, List.setIfInBounds_toArray, List.set_cons_zero, List.set_cons_succ, i64_w, i32_w]
        rfl
      refine pure_ (i := 1) (N := (some 67)) (v := ?_) (a' := ?_) #[true, true, false, false, false, false, false, false, false, false] rfl rfl (any_of HT_.out (by kernel_rfl)) (fun _ _ _ h => h) (Or.inl ⟨by rfl, ?_⟩) ?_ ?_
      rotate_left
      · intro w'
        go_simp
        first | done | with_reducible rfl
      rotate_left
      · simp only [Act.put, List.setIfInBounds_toArray, List.set_cons_zero, List.set_cons_succ, i64_w, i32_w]
        rfl
      refine pure_ (i := 2) (N := (some 68)) (v := ?_) (a' := ?_) #[true, true, true, false, false, false, false, false, false, false] rfl rfl (any_of HT_.out (by kernel_rfl)) (fun _ _ _ h => h) (Or.inl ⟨by rfl, ?_⟩) ?_ ?_
      rotate_left
      · intro w'
        go_simp
        first | done | with_reducible rfl
      rotate_left
      · simp only [Act.put, List.setIfInBounds_toArray, List.set_cons_zero, List.set_cons_succ, i64_w, i32_w]
        rfl
      refine take_ (i := 3) (N := (some 69)) (v := ?_) (a' := ?_) #[true, true, true, true, false, false, false, false, false, false] rfl rfl (take_ofW HT_.out HW_.out (by kernel_rfl)) (fun _ _ _ h => h) (Or.inl ⟨by rfl, ?_⟩) hHeld ?_ ?_
      rotate_left
      · rintro w' ⟨s0, s1⟩
        go_simp
        first | done | with_reducible rfl
      rotate_left
      · simp only [Act.put, List.setIfInBounds_toArray, List.set_cons_zero, List.set_cons_succ, i64_w, i32_w]
        rfl
      refine pure_ (i := 4) (N := (some 70)) (v := ?_) (a' := ?_) #[true, true, true, true, true, false, false, false, false, false] rfl rfl (any_of HT_.out (by kernel_rfl)) (fun _ _ _ h => h) (Or.inl ⟨by rfl, ?_⟩) ?_ ?_
      rotate_left
      · intro w'
        go_simp
        first | done | with_reducible rfl
      rotate_left
      · simp only [Act.put, List.setIfInBounds_toArray, List.set_cons_zero, List.set_cons_succ, i64_w, i32_w]
        rfl
      refine pure_ (i := 5) (N := (some 71)) (v := ?_) (a' := ?_) #[true, true, true, true, true, true, false, false, false, false] rfl rfl (any_of HT_.out (by kernel_rfl)) (fun _ _ _ h => h) (Or.inl ⟨by rfl, ?_⟩) ?_ ?_
      rotate_left
      · intro w'
        go_simp
        first | done | with_reducible rfl
      rotate_left
      · simp only [Act.put, List.setIfInBounds_toArray, List.set_cons_zero, List.set_cons_succ, i64_w, i32_w]
        rfl
      refine pure_ (i := 6) (N := (some 72)) (v := ?_) (a' := ?_) #[true, true, true, true, true, true, true, false, false, false] rfl rfl (any_of HT_.out (by kernel_rfl)) (fun _ _ _ h => h) (Or.inl ⟨by rfl, ?_⟩) ?_ ?_
      rotate_left
      · intro w'
        go_simp
        first | done | with_reducible rfl
      rotate_left
      · simp only [Act.put, List.setIfInBounds_toArray, List.set_cons_zero, List.set_cons_succ, i64_w, i32_w]
        rfl
      refine take_ (i := 7) (N := (some 73)) (v := ?_) (a' := ?_) #[true, true, true, true, true, true, true, true, false, false] rfl rfl (take_ofW HT_.out HW_.out (by kernel_rfl)) (fun _ _ _ h => h) (Or.inl ⟨by rfl, ?_⟩) hHeld ?_ ?_
      rotate_left
      · rintro w' ⟨s0, s1⟩
        go_simp
        first | done | with_reducible rfl
      rotate_left
      · simp only [Act.put, List.setIfInBounds_toArray, List.set_cons_zero, List.set_cons_succ, i64_w, i32_w]
        rfl
      refine pure_ (i := 8) (N := (some 74)) (v := ?_) (a' := ?_) #[true, true, true, true, true, true, true, true, true, false] rfl rfl (any_of HT_.out (by kernel_rfl)) (fun _ _ _ h => h) (Or.inl ⟨by rfl, ?_⟩) ?_ ?_
      rotate_left
      · intro w'
        go_simp
        first | done | with_reducible rfl
      rotate_left
      · simp only [Act.put, List.setIfInBounds_toArray, List.set_cons_zero, List.set_cons_succ, i64_w, i32_w]
        rfl
      refine pure_ (i := 9) (N := (some 8)) (v := ?_) (a' := ?_) #[true, true, true, true, true, true, true, true, true, true] rfl rfl (any_of HT_.out (by kernel_rfl)) (fun _ _ _ h => h) (Or.inl ⟨by rfl, ?_⟩) ?_ ?_
      rotate_left
      · intro w'
        go_simp
        first | done | with_reducible rfl
      rotate_left
      · simp only [Act.put, List.setIfInBounds_toArray, List.set_cons_zero, List.set_cons_succ, i64_w, i32_w]
        rfl
      refine done_ (done_of HT_.out (by kernel_rfl)) ?_
      clear hHeld HT_ HW_ hmn
      have hmx : True := trivial
      obtain ⟨w9, hw9⟩ : ∃ w9, w8.drew = w9 := ⟨_, rfl⟩
      have hd8 : Below w8.heap.size w8 w9 := hw9 ▸ below_drew (Below.refl _ _)
      have HR9 := Aside0.mk (HR8.out.below hd8)
      have HK9 := Aside0.mk (HK8.out.below hd8)
      rw [hw9]
      clear hd8 hw9
      have f9 : w9.frozen? ⟨g, 9, none⟩ = false := (ten HR9.out).2.2 9
      have c9 := (ten HR9.out).2.1.2.2.2.2
      go_upto_region 18 with fail
      clear f9 c9
      obtain ⟨w10, hw10⟩ : ∃ w10, w9.setCell ⟨g, 9, none⟩ (.bool true) = w10 := ⟨_, rfl⟩
      have HR10 : Aside0 (Rep w10 base ok g h cap cs5 pg { ebump s i with down := true }) := ⟨by rw [← hw10]; exact HR9.out.setG 9 _ (by simp [Chp.cells]) rfl { HR9.out.inv with }⟩
      have HK10 : Aside0 (Kp ok w w10) := ⟨by rw [← hw10]; exact HK9.out.set (p := ⟨g, 9, none⟩) HR9.out.okg _⟩
      rw [hw10]
      clear hw10
      clear hmx
      obtain ⟨i5, hi5, hz5, hs5, hb5⟩ := info_parts infoY
      obtain ⟨B1, hB1, hL1⟩ := HB1.out
      have hlen : (B1.pages.length : Int) = s.pages := by rw [hL1]; exact HLB.out
      have hp1 := HR.out.inv.p1
      have hk1 := HR.out.inv.k1
      have hn0 : (0 : Int) ≤ s.keep := by omega
      have hn1 : s.keep ≤ (B1.pages.length : Int) := by rw [hlen]; first | exact Int.le_refl _ | (have := HLT.out; omega)
      have hcut := cut_to (P := Try.prog) 34 22 .i64 Try.underlying34 hi5 (some ⟨pg i, 0, none⟩) B1.pages.length B1.pages.length (s.keep) hn0 hn1 (Nat.le_refl _)
      have hclr := fun ty => clear_row HR10.out hB1 (s.keep).toNat B1.pages.length (by omega) ty
      obtain ⟨-, -, -, d3⟩ := rowCells HR10.out hB1
      clear hi5 hz5 hs5 hb5 hlen hp1 hk1 hn0 hn1 hL1
      have HB1' := Aside0.mk hB1
      clear hB1
      go_upto_region 19 with fail
      obtain ⟨w13, hw13⟩ : ∃ w', (w10).setCells (pg i) 0 (List.replicate (s.keep).toNat (.slice none 0 0)) = w' := ⟨_, rfl⟩
      have hr13 : Rep w13 base ok g h cap _ pg _ := hw13 ▸ setsP (s.keep).toNat 0 HR10.out i (List.getElem?_eq_some_iff.1 HB1'.out).1
      have hk13 : Kp ok w w13 := hw13 ▸ kpSets (S := ok) (HR10.out.okp i (List.getElem?_eq_some_iff.1 HB1'.out).1) _ 0 HK10.out
      rw [hw13]
      clear hw13 hcut hclr d3
      have hB13 := modB (fun B => { B with pages := clr 0 (s.keep).toNat B.pages }) (fun B => clr_len _ _ _) ⟨B1, HB1'.out, rfl⟩
      obtain ⟨B13, hB13, -⟩ := hB13
      obtain ⟨⟨-, c1, -⟩, -, -⟩ := ten hr13
      obtain ⟨-, d1, -, -⟩ := rowCells hr13 hB13
      have c1' : w13.cell? ⟨g, 1, none⟩ = some (.int .i64 s.pages) := c1
      have fh : ∀ k, w13.frozen? ⟨h, k, none⟩ = false := fun k => blk_frozen hr13.hh _
      have hgh := hr13.gh
      have HR13 := Aside0.mk hr13
      have HK13 := Aside0.mk hk13
      clear hr13 hk13 hB13 c1
      have hne : (s.keep == s.pages) = false := beq_eq_false_iff_ne.2 (by have := HLT.out; omega)
      go_wp2_with fail
      go_ret
      rw [erS_cut HC0.out HLT.out]
      have h1 := HR13.out.setH i 1 (List.getElem?_eq_some_iff.1 (modB (fun B => { B with pages := clr 0 (s.keep).toNat B.pages }) (fun B => clr_len _ _ _) ⟨B1, HB1'.out, rfl⟩).choose_spec.1).1 (by decide) (setN s.pages) (fun _ => rfl) (.int .i64 s.pages) (fun b hb => by simp [setN]) (fun b hb => by simp [setN]) (fun b hb => by simp [setN])
      exact ⟨rfl, ⟨_, _, _, _, h1⟩, HK13.out.set (p := ⟨h, i * 4 + 1, none⟩) HR13.out.okh _⟩
    · have HLT := Aside0.mk hlt
      have hmn : (if s.pages < s.keep then s.pages else s.keep) = s.pages := by split <;> omega
      clear hlt
      refine start_ (n := 10) (S := fun w' => w'.cell? ⟨g, 8, none⟩ = some (.int .i64 s.keep) ∧ w'.cell? ⟨g, 1, none⟩ = some (.int .i64 s.pages)) (ds := []) #[false, false, false, false, false, false, false, false, false, false] (by kernel_rfl) rfl rfl (keepHeld HR8.out rfl rfl (below_drew (Below.refl _ _))) (fun hHeld => ?_)
      refine with_tabW reg_erase_16.tab reg_erase_16.bits (fun HT_ HW_ => ?_)
      refine pure_ (i := 0) (N := (some 66)) (v := ?_) (a' := ?_) #[true, false, false, false, false, false, false, false, false, false] rfl rfl (any_of HT_.out (by kernel_rfl)) (fun _ _ _ h => h) (Or.inl ⟨by rfl, ?_⟩) ?_ ?_
      rotate_left
      · intro w'
        go_simp
        first | done | with_reducible rfl
      rotate_left
      · simp only [Act.put, List.setIfInBounds_toArray, List.set_cons_zero, List.set_cons_succ, i64_w, i32_w]
        rfl
      refine pure_ (i := 1) (N := (some 67)) (v := ?_) (a' := ?_) #[true, true, false, false, false, false, false, false, false, false] rfl rfl (any_of HT_.out (by kernel_rfl)) (fun _ _ _ h => h) (Or.inl ⟨by rfl, ?_⟩) ?_ ?_
      rotate_left
      · intro w'
        go_simp
        first | done | with_reducible rfl
      rotate_left
      · simp only [Act.put, List.setIfInBounds_toArray, List.set_cons_zero, List.set_cons_succ, i64_w, i32_w]
        rfl
      refine pure_ (i := 2) (N := (some 68)) (v := ?_) (a' := ?_) #[true, true, true, false, false, false, false, false, false, false] rfl rfl (any_of HT_.out (by kernel_rfl)) (fun _ _ _ h => h) (Or.inl ⟨by rfl, ?_⟩) ?_ ?_
      rotate_left
      · intro w'
        go_simp
        first | done | with_reducible rfl
      rotate_left
      · simp only [Act.put, List.setIfInBounds_toArray, List.set_cons_zero, List.set_cons_succ, i64_w, i32_w]
        rfl
      refine take_ (i := 3) (N := (some 69)) (v := ?_) (a' := ?_) #[true, true, true, true, false, false, false, false, false, false] rfl rfl (take_ofW HT_.out HW_.out (by kernel_rfl)) (fun _ _ _ h => h) (Or.inl ⟨by rfl, ?_⟩) hHeld ?_ ?_
      rotate_left
      · rintro w' ⟨s0, s1⟩
        go_simp
        first | done | with_reducible rfl
      rotate_left
      · simp only [Act.put, List.setIfInBounds_toArray, List.set_cons_zero, List.set_cons_succ, i64_w, i32_w]
        rfl
      refine pure_ (i := 4) (N := (some 70)) (v := ?_) (a' := ?_) #[true, true, true, true, true, false, false, false, false, false] rfl rfl (any_of HT_.out (by kernel_rfl)) (fun _ _ _ h => h) (Or.inl ⟨by rfl, ?_⟩) ?_ ?_
      rotate_left
      · intro w'
        go_simp
        first | done | with_reducible rfl
      rotate_left
      · simp only [Act.put, List.setIfInBounds_toArray, List.set_cons_zero, List.set_cons_succ, i64_w, i32_w]
        rfl
      refine pure_ (i := 5) (N := (some 71)) (v := ?_) (a' := ?_) #[true, true, true, true, true, true, false, false, false, false] rfl rfl (any_of HT_.out (by kernel_rfl)) (fun _ _ _ h => h) (Or.inl ⟨by rfl, ?_⟩) ?_ ?_
      rotate_left
      · intro w'
        go_simp
        first | done | with_reducible rfl
      rotate_left
      · simp only [Act.put, List.setIfInBounds_toArray, List.set_cons_zero, List.set_cons_succ, i64_w, i32_w]
        rfl
      refine pure_ (i := 6) (N := (some 72)) (v := ?_) (a' := ?_) #[true, true, true, true, true, true, true, false, false, false] rfl rfl (any_of HT_.out (by kernel_rfl)) (fun _ _ _ h => h) (Or.inl ⟨by rfl, ?_⟩) ?_ ?_
      rotate_left
      · intro w'
        go_simp
        first | done | with_reducible rfl
      rotate_left
      · simp only [Act.put, List.setIfInBounds_toArray, List.set_cons_zero, List.set_cons_succ, i64_w, i32_w]
        rfl
      refine take_ (i := 7) (N := (some 73)) (v := ?_) (a' := ?_) #[true, true, true, true, true, true, true, true, false, false] rfl rfl (take_ofW HT_.out HW_.out (by kernel_rfl)) (fun _ _ _ h => h) (Or.inl ⟨by rfl, ?_⟩) hHeld ?_ ?_
      rotate_left
      · rintro w' ⟨s0, s1⟩
        go_simp
        first | done | with_reducible rfl
      rotate_left
      · simp only [Act.put, List.setIfInBounds_toArray, List.set_cons_zero, List.set_cons_succ, i64_w, i32_w]
        rfl
      refine pure_ (i := 8) (N := (some 74)) (v := ?_) (a' := ?_) #[true, true, true, true, true, true, true, true, true, false] rfl rfl (any_of HT_.out (by kernel_rfl)) (fun _ _ _ h => h) (Or.inl ⟨by rfl, ?_⟩) ?_ ?_
      rotate_left
      · intro w'
        go_simp
        first | done | with_reducible rfl
      rotate_left
      · simp only [Act.put, List.setIfInBounds_toArray, List.set_cons_zero, List.set_cons_succ, i64_w, i32_w]
        rfl
      refine pure_ (i := 9) (N := (some 8)) (v := ?_) (a' := ?_) #[true, true, true, true, true, true, true, true, true, true] rfl rfl (any_of HT_.out (by kernel_rfl)) (fun _ _ _ h => h) (Or.inl ⟨by rfl, ?_⟩) ?_ ?_
      rotate_left
      · intro w'
        go_simp
        first | done | with_reducible rfl
      rotate_left
      · simp only [Act.put, List.setIfInBounds_toArray, List.set_cons_zero, List.set_cons_succ, i64_w, i32_w]
        rfl
      refine done_ (done_of HT_.out (by kernel_rfl)) ?_
      clear hHeld HT_ HW_ hmn
      have hmx : True := trivial
      obtain ⟨w9, hw9⟩ : ∃ w9, w8.drew = w9 := ⟨_, rfl⟩
      have hd8 : Below w8.heap.size w8 w9 := hw9 ▸ below_drew (Below.refl _ _)
      have HR9 := Aside0.mk (HR8.out.below hd8)
      have HK9 := Aside0.mk (HK8.out.below hd8)
      rw [hw9]
      clear hd8 hw9
      have f9 : w9.frozen? ⟨g, 9, none⟩ = false := (ten HR9.out).2.2 9
      have c9 := (ten HR9.out).2.1.2.2.2.2
      go_upto_region 18 with fail
      clear f9 c9
      obtain ⟨w10, hw10⟩ : ∃ w10, w9.setCell ⟨g, 9, none⟩ (.bool true) = w10 := ⟨_, rfl⟩
      have HR10 : Aside0 (Rep w10 base ok g h cap cs5 pg { ebump s i with down := true }) := ⟨by rw [← hw10]; exact HR9.out.setG 9 _ (by simp [Chp.cells]) rfl { HR9.out.inv with }⟩
      have HK10 : Aside0 (Kp ok w w10) := ⟨by rw [← hw10]; exact HK9.out.set (p := ⟨g, 9, none⟩) HR9.out.okg _⟩
      rw [hw10]
      clear hw10
      clear hmx
      obtain ⟨i5, hi5, hz5, hs5, hb5⟩ := info_parts infoY
      obtain ⟨B1, hB1, hL1⟩ := HB1.out
      have hlen : (B1.pages.length : Int) = s.pages := by rw [hL1]; exact HLB.out
      have hp1 := HR.out.inv.p1
      have hk1 := HR.out.inv.k1
      have hn0 : (0 : Int) ≤ s.pages := by omega
      have hn1 : s.pages ≤ (B1.pages.length : Int) := by rw [hlen]; first | exact Int.le_refl _ | (have := HLT.out; omega)
      have hcut := cut_to (P := Try.prog) 34 22 .i64 Try.underlying34 hi5 (some ⟨pg i, 0, none⟩) B1.pages.length B1.pages.length (s.pages) hn0 hn1 (Nat.le_refl _)
      have hclr := fun ty => clear_row HR10.out hB1 (s.pages).toNat B1.pages.length (by omega) ty
      obtain ⟨-, -, -, d3⟩ := rowCells HR10.out hB1
      clear hi5 hz5 hs5 hb5 hlen hp1 hk1 hn0 hn1 hL1
      have HB1' := Aside0.mk hB1
      clear hB1
      go_upto_region 19 with fail
      obtain ⟨w13, hw13⟩ : ∃ w', (w10).setCells (pg i) 0 (List.replicate (s.pages).toNat (.slice none 0 0)) = w' := ⟨_, rfl⟩
      have hr13 : Rep w13 base ok g h cap _ pg _ := hw13 ▸ setsP (s.pages).toNat 0 HR10.out i (List.getElem?_eq_some_iff.1 HB1'.out).1
      have hk13 : Kp ok w w13 := hw13 ▸ kpSets (S := ok) (HR10.out.okp i (List.getElem?_eq_some_iff.1 HB1'.out).1) _ 0 HK10.out
      rw [hw13]
      clear hw13 hcut hclr d3
      have hB13 := modB (fun B => { B with pages := clr 0 (s.pages).toNat B.pages }) (fun B => clr_len _ _ _) ⟨B1, HB1'.out, rfl⟩
      obtain ⟨B13, hB13, -⟩ := hB13
      obtain ⟨⟨-, c1, -⟩, -, -⟩ := ten hr13
      obtain ⟨-, d1, -, -⟩ := rowCells hr13 hB13
      have c1' : w13.cell? ⟨g, 1, none⟩ = some (.int .i64 s.pages) := c1
      have fh : ∀ k, w13.frozen? ⟨h, k, none⟩ = false := fun k => blk_frozen hr13.hh _
      have hgh := hr13.gh
      have HR13 := Aside0.mk hr13
      have HK13 := Aside0.mk hk13
      clear hr13 hk13 hB13 c1
      go_wp2_with fail
      go_ret
      rw [erS_cutAll HC0.out (by have := HLT.out; omega)]
      have h1 := HR13.out.setH i 1 (List.getElem?_eq_some_iff.1 (modB (fun B => { B with pages := clr 0 (s.pages).toNat B.pages }) (fun B => clr_len _ _ _) ⟨B1, HB1'.out, rfl⟩).choose_spec.1).1 (by decide) (setN s.pages) (fun _ => rfl) (.int .i64 s.pages) (fun b hb => by simp [setN]) (fun b hb => by simp [setN]) (fun b hb => by simp [setN])
      have h2 := h1.setH i 1 (by rw [mod_len]; exact (List.getElem?_eq_some_iff.1 (modB (fun B => { B with pages := clr 0 (s.pages).toNat B.pages }) (fun B => clr_len _ _ _) ⟨B1, HB1'.out, rfl⟩).choose_spec.1).1) (by decide) (setN 0) (fun _ => rfl) (.int .i64 0) (fun b hb => by simp [setN]) (fun b hb => by simp [setN]) (fun b hb => by simp [setN])
      rw [mod_mod] at h2
      exact ⟨rfl, ⟨_, _, _, _, h2⟩, (HK13.out.set (p := ⟨h, i * 4 + 1, none⟩) HR13.out.okh _).set (p := ⟨h, i * 4 + 1, none⟩) HR13.out.okh _⟩
set_option maxHeartbeats 8000000 in
set_option maxRecDepth 100000 in
/-- Erase. -/
theorem erase {w : World} {base : Nat} {ok : Nat → Prop} {g : Nat} {s : Chp} (hI : IsChip w base ok g s) (b : Int) :
    Calls Try.prog 17 #[.pointer (some ⟨g, 0, none⟩), .int .i64 b] w fun e w' => e = .returned (.int .i64 (eraseS s b).2) ∧ Now w base ok g (eraseS s b).1 w' := by
  cases hs : hasB s b with
  | true =>
    obtain ⟨i, B, rfl, hB, hi⟩ := has_at hs
    unfold eraseS
    rw [if_pos hs]
    simp only [Int.toNat_natCast, hB]
    by_cases hd : s.down = true
    · rw [if_pos hd]
      exact er_down hI i B hs hB hi hd
    · rw [if_neg hd]
      by_cases hb : B.bad = true
      · rw [if_pos hb]
        exact er_bad hI i B hs hB hi (by simpa using hd) hb
      · rw [if_neg hb]
        exact er_go hI i B hs hB hi (by simpa using hd) (by simpa using hb)
  | false =>
    unfold eraseS
    rw [if_neg (by rw [hs]; decide)]
    exact er_arg hI b hs
end Go.Proofs.Ytloldgiggnhemaa.Cm
