import Derived.Test.YtkncmbbkehnagaaZb10
set_option linter.unusedVariables false
set_option linter.unusedSimpArgs false
/-! MountDoubles. -/
namespace Go.Proofs.Ytkncmbbkehnagaa.Cm
open Go.RowKit Go.Proofs.YtkncmbbkehnagaaW.PrintWords Go.Proofs.YtkncmbbkehnagaaW.PrintLast Go.Proofs.YtkncmbbkehnagaaW.PrintMore Go.Proofs.Ytkncmbbkehnagaa.Kp Go.Proofs.Ytkncmbbkehnagaa.Cp Go.Proofs.Ytkncmbbkehnagaa.PAll Go.Proofs.Ytkncmbbkehnagaa.Iter Go.Proofs.Ytkncmbbkehnagaa.St Go.Proofs.Ytkncmbbkehnagaa.Sp Go.Proofs.Ytkncmbbkehnagaa.Pl1 Go.Proofs.Ytkncmbbkehnagaa.Pl2
attribute [local go_sem] max2_int min2_int max_two min_two max_three min_three max_four min_four

set_option maxHeartbeats 4000000 in
set_option maxRecDepth 100000 in
theorem dbNot {W : World} {A : Option Addr} {c : Nat} {l : List S28} (a1 : Int) (up : Bool) (hC : Kd.C k28 W A l.length l) (h : 32 < l.length ∨ (l.length ≤ 32 ∧ l.all ltB = false)) : Calls Try.prog 3 #[.slice A l.length c, .int .i64 a1, .bool up] W fun e w' => e = .returned (.bool true) ∧ Below W.heap.size W w' := by
  have HC := Aside0.mk hC
  have HH := Aside0.mk h
  clear hC h
  go_enter Try.func3, Try.ntmps3
  rcases HH.out with h | ⟨h, hm⟩
  · have d1 : decide ((32 : Int) < l.length) = true := decide_eq_true (by omega)
    have d2 : decide (32 < l.length) = true := decide_eq_true (by omega)
    clear h
    go_wp2_with fail
    refine (awake11 W).mono ?_
    rintro ev w2 ⟨rfl, hb⟩
    go_wp2_with fail
    go_ret
    exact ⟨rfl, hb⟩
  · have d1 : decide ((32 : Int) < l.length) = false := decide_eq_false (by omega)
    have d2 : decide (32 < l.length) = false := decide_eq_false (by omega)
    go_wp2_with fail
    refine (light11 HC.out (by omega)).mono ?_
    rintro ev w2 ⟨rfl, hb⟩
    have HB := Aside0.mk hb
    rw [hm]
    clear h hb
    go_wp2_with fail
    refine (awake11 w2).mono ?_
    rintro ev w3 ⟨rfl, hb⟩
    have hbb := below_step HB.out hb
    go_wp2_with fail
    go_ret
    exact ⟨rfl, hbb⟩
theorem infoRF : (Try.prog.info? 31).map (fun i => (i.zero, i.size, i.bytes)) = some (some (.agg #[.int .i64 0, .int .i64 0]), 2, 16) := by kernel_rfl
theorem k2_mkM (w : World) (base : Nat) (ok : Nat → Prop) (x : Rf) : k2.M w base ok x [.int .i64 x.1, .int .i64 x.2] := ⟨_, _, rfl, rfl, rfl⟩
theorem db_set (l : List S28) (k a : Nat) (up : Bool) (x : S28) (hx : l[k]? = some x) : (dbL l k a up).set (if up = true then 2 else 0) (lay (l.take k) ++ [laidL x.f0 x.f1 x.f2]) = dbL l (k + 1) a up := by
  unfold dbL
  cases up with
  | true =>
    simp only [if_true]
    rw [take_snoc2 l k x hx, lay_snoc]
    rfl
  | false =>
    simp only [Bool.false_eq_true, if_false]
    rw [take_snoc2 l k x hx, lay_snoc]
    rfl
theorem db_set2 (l : List S28) (k a : Nat) (up : Bool) (x : S28) (hx : l[a]? = some x) : (dbL l k a up).set (if up = true then 0 else 2) (lay (l.take a) ++ [laidL x.f0 x.f1 x.f2]) = dbL l k (a + 1) up := by
  unfold dbL
  cases up with
  | true =>
    simp only [if_true]
    rw [take_snoc2 l a x hx, lay_snoc]
    rfl
  | false =>
    simp only [Bool.false_eq_true, if_false]
    rw [take_snoc2 l a x hx, lay_snoc]
    rfl
theorem db_prog1 {l : List S28} {k : Nat} {x : S28} (a : Nat) (up : Bool) (bp : Int) (hx : l[k]? = some x) (hl : l.length ≤ 32) (hg : GoodS x) : progS (mkC 32 (dbL l k a up) 0 bp 0) ((if up = true then 2 else 0 : Nat) : Int) (k : Int) (laidL x.f0 x.f1 x.f2) = (mkC 32 (dbL l (k + 1) a up) 0 (wrap64 (bp + 1)) 0, 0) := by
  have hk := (List.getElem?_eq_some_iff.1 hx).1
  have hlk : (lay (l.take k)).length = k := by rw [lay_len, List.length_take]; omega
  have h_ := prog_mk (p := 32) (L := dbL l k a up) 0 bp 0 (i := if up = true then 2 else 0) (B := lay (l.take k)) (laidL x.f0 x.f1 x.f2) (by unfold dbL; cases up <;> rfl) (by rw [hlk]; omega) (by decide) hg.fine.2.1 hg.fine.2.2
  rw [hlk, db_set l k a up x hx] at h_
  exact h_
theorem db_prog2 {l : List S28} {a : Nat} {x : S28} (k : Nat) (up : Bool) (bp : Int) (hx : l[a]? = some x) (hl : l.length ≤ 32) (hg : GoodS x) : progS (mkC 32 (dbL l k a up) 0 bp 0) ((if up = true then 0 else 2 : Nat) : Int) (a : Int) (laidL x.f0 x.f1 x.f2) = (mkC 32 (dbL l k (a + 1) up) 0 (wrap64 (bp + 1)) 0, 0) := by
  have hk := (List.getElem?_eq_some_iff.1 hx).1
  have hlk : (lay (l.take a)).length = a := by rw [lay_len, List.length_take]; omega
  have h_ := prog_mk (p := 32) (L := dbL l k a up) 0 bp 0 (i := if up = true then 0 else 2) (B := lay (l.take a)) (laidL x.f0 x.f1 x.f2) (by unfold dbL; cases up <;> rfl) (by rw [hlk]; omega) (by decide) hg.fine.2.1 hg.fine.2.2
  rw [hlk, db_set2 l k a up x hx] at h_
  exact h_
theorem fds_getD (B : Nat) (l : List S28) (i : Nat) (x : S28) (h : l[i]? = some x) : (fds B l).getD i zFD = asF B i x := by
  have hi := (List.getElem?_eq_some_iff.1 h).1
  rw [getD_at zFD (by rw [fds_len]; exact hi)]
  simp only [fds, List.getElem_map, List.getElem_range]
  rw [getD_at z28 hi, (List.getElem?_eq_some_iff.1 h).2]
theorem fdHeld4 {W W1 : World} {b : Nat} {x0 x1 x2 x3 : Value} (h : W.heap[b]? = some (.cells #[x0, x1, x2, x3] 49 (0, 0))) (hb : Below W.heap.size W W1) : W1.cell? ⟨b, 0, none⟩ = some x0 ∧ W1.cell? ⟨b, 1, none⟩ = some x1 ∧ W1.cell? ⟨b, 2, none⟩ = some x2 ∧ W1.cell? ⟨b, 3, none⟩ = some x3 :=
  ⟨pw_cell_below hb ((blk_cell h 0).trans rfl), pw_cell_below hb ((blk_cell h 1).trans rfl), pw_cell_below hb ((blk_cell h 2).trans rfl), pw_cell_below hb ((blk_cell h 3).trans rfl)⟩
theorem dbHeld {W W1 : World} {b b7 b20 i : Nat} {x0 x1 x2 x3 y0 y1 y2 : Value} (h : W.heap[b]? = some (.cells #[x0, x1, x2, x3] 49 (0, 0))) (h2 : W.cell? ⟨b7, i * 2, none⟩ = some y0 ∧ W.cell? ⟨b7, i * 2 + 1, none⟩ = some y1 ∧ W.cell? ⟨b20, 2, none⟩ = some y2) (hb : Below W.heap.size W W1) :
    (W1.cell? ⟨b, 0, none⟩ = some x0 ∧ W1.cell? ⟨b, 1, none⟩ = some x1 ∧ W1.cell? ⟨b, 2, none⟩ = some x2 ∧ W1.cell? ⟨b, 3, none⟩ = some x3) ∧ W1.cell? ⟨b7, i * 2, none⟩ = some y0 ∧ W1.cell? ⟨b7, i * 2 + 1, none⟩ = some y1 ∧ W1.cell? ⟨b20, 2, none⟩ = some y2 :=
  ⟨fdHeld4 h hb, pw_cell_below hb h2.1, pw_cell_below hb h2.2.1, pw_cell_below hb h2.2.2⟩
def reg_LwDoubles_37.T : Bool × List (List Nat × List Nat) := (true, [([], []), ([0], [0]), ([], []), ([], []), ([2, 3], [2, 3]), ([4], [4]), ([1, 5], [1, 5]), ([6], [6]), ([7], [7]), ([8, 7], [7, 8]), ([9, 7], [7, 9]), ([7], [7]), ([11, 7], [7, 11]), ([12, 7], [7, 12]), ([13, 7], [7, 13]), ([14, 7], [7, 14]), ([10, 15, 7], [7, 10, 15]), ([7, 16], [7, 16]), ([17, 7], [17]), ([18], [18]), ([19, 18], [18, 19]), ([20, 18], [18, 20]), ([18], [18]), ([21, 22, 18], [18, 21, 22]), ([18, 23], [18, 23])])
def reg_LwDoubles_37.B : List Nat := [0, 1, 0, 0, 12, 28, 63, 127, 255, 511, 1023, 255, 2303, 6399, 14591, 30975, 65535, 131071, 262143, 524287, 1048575, 2097151, 524287, 8388607, 16777215]
theorem reg_LwDoubles_37.tab : rtab .any (opsOf Try.f3 37) = reg_LwDoubles_37.T := by kernel_rfl
theorem reg_LwDoubles_37.bits : waitsOk reg_LwDoubles_37.T.2 reg_LwDoubles_37.B = true := by kernel_rfl
set_option maxHeartbeats 4000000 in
set_option maxRecDepth 100000 in
theorem dbWalkF {W : World} {A : Option Addr} {c : Nat} {l : List S28} (a1 : Int) (hC : Kd.C k28 W A l.length l) (hz : l.length ≤ c) (hl : l.length ≤ 32) (hlt : l.all ltB = true) (hby : ∀ x ∈ l, Bytes x.f2) (m : Nat) (hm : wrap64 (Int.tmod (IntKind.u64.wrap a1) ((l.length : Int) + 1)) = (m : Int)) (hml : m ≤ l.length) :
    Calls Try.prog 3 #[.slice A l.length c, .int .i64 a1, .bool false] W fun e w' => e = .returned (.bool true) ∧ Below W.heap.size W w' := by
  have HC := Aside0.mk hC
  have HZ := Aside0.mk hz
  have HL := Aside0.mk hl
  have HLT := Aside0.mk hlt
  have HBY := Aside0.mk hby
  have HM := Aside0.mk hm
  have HML := Aside0.mk hml
  have d1 : decide ((32 : Int) < l.length) = false := decide_eq_false (by omega)
  have d2 : decide (32 < l.length) = false := decide_eq_false (by omega)
  clear hC hz hl hlt hby hm hml
  go_enter Try.func3, Try.ntmps3
  go_wp2_with fail
  refine (light11 HC.out (by have := HL.out; omega)).mono ?_
  rintro ev w1 ⟨rfl, hb⟩
  rw [HLT.out]
  have HB1 := Aside0.mk hb
  clear hb
  go_upto_region 5 with fail
  clear d1 d2
  go_loopw [7, 35] (fun v7 v35 wr => ∃ (k : Nat), k ≤ l.length ∧ v35 = .int .i64 (k : Int) ∧ Aside0 (Kd.R k2 31 wr w1.heap.size (fun _ => True) v7 ((l.take k).map refS)) ∧ Aside0 (∀ x ∈ l.take k, GoodS x) ∧ Aside0 (Apart (l.take k)) ∧ Aside0 (Below w1.heap.size w1 wr)) (fun _ v35 _ => l.length - (intOf v35).toNat)
  case atStart => exact ⟨0, Nat.zero_le _, rfl, ⟨Kd.R_nil _ _ _ _ _⟩, ⟨fun x hx => by simp at hx⟩, ⟨List.Pairwise.nil⟩, ⟨Below.refl _ _⟩⟩
  case round =>
    obtain ⟨k, hk, rfl, HV, HG, HA, HB⟩ := hrel
    by_cases hkl : k < l.length
    · have e4 : decide ((k : Int) < (l.length : Int)) = true := decide_eq_true (by omega)
      have e5 : decide (k < l.length) = true := decide_eq_true hkl
      have e6 : (k : Int) < (l.length : Int) := by omega
      have HKL := Aside0.mk hkl
      have hw4 : wrap64 ((k : Int) + 1) = ((k + 1 : Nat) : Int) := by rw [show (k : Int) + 1 = ((k + 1 : Nat) : Int) by omega]; exact wrap_small _ (by omega) (by have := HL.out; omega)
      have HMS : Aside0 (l.length - ((k + 1 : Nat) : Int).toNat < l.length - ((k : Nat) : Int).toNat) := ⟨by omega⟩
      obtain ⟨x, hx⟩ : ∃ x, l[k]? = some x := ⟨_, List.getElem?_eq_getElem hkl⟩
      have hrd : rd_T28 l (k : Int) = x := by unfold rd_T28; rw [List.getD_eq_getElem?_getD, Int.toNat_natCast, hx]; rfl
      obtain ⟨ad, A5, c5, hA5, x0, x1, x2, hle5, hC5⟩ := at_T28 HC.out (k : Int) (by omega) e6
      have HBW := Aside0.mk (below_step HB1.out HB.out)
      rw [hrd] at x0 x1 x2 hle5 hC5
      rw [Int.toNat_natCast] at x0 x1 x2
      replace x0 := pw_cell_below HBW.out x0
      replace x1 := pw_cell_below HBW.out x1
      replace x2 := pw_cell_below HBW.out x2
      cases hA5
      have HX := Aside0.mk hx
      have HC5 := Aside0.mk hC5
      have HLE5 := Aside0.mk hle5
      have HXM : Aside0 (x ∈ l) := ⟨List.mem_of_getElem? hx⟩
      clear hkl hx hrd hC5 hle5 hk
      go_upto_region 7 with fail
      obtain ⟨w6, hw6⟩ : ∃ w6, wr.alloc (.cells #[.int .i64 x.f0, .int .i64 x.f1, .slice A5 x.f2.length c5] 28) = w6 := ⟨_, rfl⟩
      obtain ⟨b6, hb6⟩ : ∃ x, wr.heap.size = x := ⟨_, rfl⟩
      have hbl6 : Below wr.heap.size wr w6 := by rw [← hw6]; exact below_alloc (Below.refl _ _) _
      have HB6 := Aside0.mk (below_step HB.out hbl6)
      have HV6 := Aside0.mk (Kd.R_below HV.out hbl6)
      have hx6 : w6.heap[b6]? = some (.cells #[.int .i64 x.f0, .int .i64 x.f1, .slice A5 x.f2.length c5] 28 (0, 0)) := by rw [← hw6, ← hb6]; exact blk_new wr _
      have HX6 := Aside0.mk hx6
      rw [hw6, hb6]
      clear x0 x1 x2
      obtain ⟨x0, x1, x2, z0, z1, z2⟩ := Parse.three hx6
      clear hw6 hb6 hx6 hbl6 HV HB HBW
      obtain ⟨kq, hkq⟩ := (refMay_ev x.f0 x.f1 x.f2).rounds
      have HKQ := Aside0.mk hkq
      clear hkq
      by_cases hmy : mayB x.f0 x.f1 x.f2 = true
      · have HGX : Aside0 (GoodS x) := ⟨⟨hmy, HBY.out x HXM.out⟩⟩
        have HMY := Aside0.mk hmy
        clear hmy
        go_wp2_with fail
        refine (potsherdref3_MaySheet.calls kq x.f0 x.f1 A5 c5 x.f2 true w6 (Kd.C_below HC5.out (below_step HB1.out HB6.out)) HLE5.out (by rw [HKQ.out, HMY.out])).mono ?_
        rintro ev w7 ⟨rfl, hb7⟩
        have HB7 := Aside0.mk (below_step HB6.out hb7)
        have HV7 := Aside0.mk (Kd.R_below HV6.out hb7)
        have HX7 := Aside0.mk (blk_below HX6.out hb7)
        clear hb7 x0 x1 x2 z0 z1 z2 HB6 HV6 HX6
        have hkc : k ≤ c := by have := HKL.out; have := HZ.out; omega
        go_wp2_with fail
        go_loopw [48] (fun v48 wr => ∃ (j : Nat), j ≤ k ∧ v48 = .int .i64 (j : Int) ∧ Aside0 (∀ a y, a < j → l[a]? = some y → y.f0 ≠ x.f0) ∧ Aside0 (Below w7.heap.size w7 wr)) (fun v48 _ => k - (intOf v48).toNat)
        case atStart => exact ⟨0, Nat.zero_le _, rfl, ⟨fun a y ha => by omega⟩, ⟨Below.refl _ _⟩⟩
        case round =>
          obtain ⟨j, hj, rfl, HD, HBI⟩ := hrel
          have HXI := Aside0.mk (blk_below HX7.out HBI.out)
          by_cases hjk : j < k
          · have f4 : decide ((j : Int) < (k : Int)) = true := decide_eq_true (by omega)
            have f5 : decide (j < k) = true := decide_eq_true hjk
            have f6 : (j : Int) < (k : Int) := by omega
            have hjl : j < l.length := by have := HKL.out; omega
            have f7 : (j : Int) < (l.length : Int) := by omega
            have HJK := Aside0.mk hjk
            have hw5 : wrap64 ((j : Int) + 1) = ((j + 1 : Nat) : Int) := by rw [show (j : Int) + 1 = ((j + 1 : Nat) : Int) by omega]; exact wrap_small _ (by omega) (by have := HL.out; omega)
            have HMJ : Aside0 (k - ((j + 1 : Nat) : Int).toNat < k - ((j : Nat) : Int).toNat) := ⟨by omega⟩
            obtain ⟨y, hy⟩ : ∃ y, l[j]? = some y := ⟨_, List.getElem?_eq_getElem hjl⟩
            have hrd : rd_T28 l (j : Int) = y := by unfold rd_T28; rw [List.getD_eq_getElem?_getD, Int.toNat_natCast, hy]; rfl
            obtain ⟨ad', A8, c8, hA8, y0, y1, y2, -, -⟩ := at_T28 HC.out (j : Int) (by omega) f7
            have hbi := below_step (below_step HB1.out HB7.out) HBI.out
            rw [hrd] at y0 y1 y2
            rw [Int.toNat_natCast] at y0 y1 y2
            replace y0 := pw_cell_below hbi y0
            replace y1 := pw_cell_below hbi y1
            replace y2 := pw_cell_below hbi y2
            cases hA8
            have HY := Aside0.mk hy
            clear hjk hj hy hrd hbi hjl
            go_upto_region 12 with fail
            obtain ⟨w9, hw9⟩ : ∃ w9, wr.alloc (.cells #[.int .i64 y.f0, .int .i64 y.f1, .slice A8 y.f2.length c8] 28) = w9 := ⟨_, rfl⟩
            obtain ⟨b9, hb9⟩ : ∃ x, wr.heap.size = x := ⟨_, rfl⟩
            have hbl9 : Below wr.heap.size wr w9 := by rw [← hw9]; exact below_alloc (Below.refl _ _) _
            have HBI9 := Aside0.mk (below_step HBI.out hbl9)
            have hx9 : w9.heap[b9]? = some (.cells #[.int .i64 y.f0, .int .i64 y.f1, .slice A8 y.f2.length c8] 28 (0, 0)) := by rw [← hw9, ← hb9]; exact blk_new wr _
            rw [hw9, hb9]
            clear y0 y1 y2
            obtain ⟨y0, -, -, -, -, -⟩ := Parse.three hx9
            obtain ⟨x0, -, -, -, -, -⟩ := Parse.three (blk_below HXI.out hbl9)
            clear hw9 hb9 hx9 hbl9 HBI HXI
            by_cases he : y.f0 = x.f0
            · have g1 : (y.f0 == x.f0) = true := beq_iff_eq.2 he
              have g2 : decide (y.f0 = x.f0) = true := decide_eq_true he
              clear he
              go_wp2_with fail
              refine (awake11 w9).mono ?_
              rintro ev w10 ⟨rfl, hb10⟩
              have HBF := Aside0.mk (below_step (below_step (below_step HB1.out HB7.out) HBI9.out) hb10)
              clear hb10 y0 x0
              go_wp2_with fail
              go_ret
              exact ⟨rfl, HBF.out⟩
            · have g1 : (y.f0 == x.f0) = false := beq_eq_false_iff_ne.2 he
              have g2 : decide (y.f0 = x.f0) = false := decide_eq_false he
              have HE := Aside0.mk he
              clear he
              go_wp2_with fail
              clear y0 x0
              go_roundw
              case measure => first | exact HMJ.out | (rw [hw5]; exact HMJ.out)
              case rel =>
                refine ⟨j + 1, HJK.out, by first | rw [hw5] | rfl, ⟨fun a z ha hz => ?_⟩, HBI9⟩
                by_cases haj : a = j
                · subst haj
                  have h1_ := HY.out
                  rw [h1_] at hz
                  injection hz with hz
                  rw [← hz]
                  exact HE.out
                · exact HD.out a z (by omega) hz
          · have hje : j = k := by omega
            have f4 : decide ((j : Int) < (k : Int)) = false := decide_eq_false (by omega)
            have f5 : decide (j < k) = false := decide_eq_false hjk
            have hd := HD.out
            rw [hje] at hd
            have HDD := Aside0.mk hd
            have HVI := Aside0.mk (Kd.R_below HV7.out HBI.out)
            have HBII := Aside0.mk (below_step HB7.out HBI.out)
            obtain ⟨x0, x1, -, -, -, -⟩ := Parse.three HXI.out
            clear hje hjk hj hd HD HV7 HBI
            have HLL : Aside0 (((l.take k).map refS).length = k) := ⟨by rw [List.length_map, List.length_take]; have := HKL.out; omega⟩
            go_wp2_with ((with_reducible refine gate_builtin (b := .append) (xs := #[.tmp 59, .tmp 65]) rfl ?_); at_builtin; refine Kd.R_append k2 (w0 := w1) w1.heap.size rfl (.tmp 59) (.tmp 65) 25 31 (.agg #[.int .i64 0, .int .i64 0]) 16 rfl Try.underlying25 infoRF rfl (by decide) (by decide) u7 ((l.take k).map refS) (refS x) [.int .i64 x.f0, .int .i64 x.f1] (fun _ => True) (fun _ => False) rfl rfl (k2_mkM _ _ _ _) (fun _ hk => hk.elim) (fun _ _ => trivial) HVI.out HBII.out HBII.out.size ?aL ?_; (case aL => rw [HLL.out]; have := HKL.out; have := HL.out; omega); intro v9 w9 ho hb9 hg9 hat9; have HO := Aside0.mk ho; have HB9 := Aside0.mk hb9; clear ho hb9 hg9 hat9)
            go_roundw
            case measure => first | exact HMS.out | (rw [hw4]; exact HMS.out)
            case rel =>
              have ht_ : l.take (k + 1) = l.take k ++ [x] := take_snoc2 l k x HX.out
              refine ⟨k + 1, HKL.out, by first | rw [hw4] | rfl, ⟨by rw [ht_, List.map_append]; exact HO.out⟩, ⟨fun y hy => ?_⟩, ⟨?_⟩, HB9⟩
              · rw [ht_] at hy
                rcases List.mem_append.1 hy with hy | hy
                · exact HG.out y hy
                · rw [List.mem_singleton.1 hy]
                  exact HGX.out
              · rw [ht_]
                refine List.pairwise_append.2 ⟨HA.out, List.pairwise_singleton _ _, fun a ha b hb => ?_⟩
                rw [List.mem_singleton.1 hb]
                obtain ⟨i_, hi_, he_⟩ := List.getElem_of_mem ha
                have hik : i_ < k := by rw [List.length_take] at hi_; omega
                rw [List.getElem_take] at he_
                exact HDD.out i_ a hik (by rw [List.getElem?_eq_getElem (by have := HKL.out; omega), he_])
      · have hmf : mayB x.f0 x.f1 x.f2 = false := by simpa using hmy
        clear hmy
        go_wp2_with fail
        refine (potsherdref3_MaySheet.calls kq x.f0 x.f1 A5 c5 x.f2 false w6 (Kd.C_below HC5.out (below_step HB1.out HB6.out)) HLE5.out (by rw [HKQ.out, hmf])).mono ?_
        rintro ev w7 ⟨rfl, hb7⟩
        have HB7 := Aside0.mk (below_step (below_step HB1.out HB6.out) hb7)
        clear hb7 x0 x1 x2 z0 z1 z2
        go_wp2_with fail
        refine (awake11 w7).mono ?_
        rintro ev w8 ⟨rfl, hb8⟩
        have HBF := Aside0.mk (below_step HB7.out hb8)
        clear hb8
        go_wp2_with fail
        go_ret
        exact ⟨rfl, HBF.out⟩
    · have hke : k = l.length := by omega
      have e4 : decide ((k : Int) < (l.length : Int)) = false := decide_eq_false (by omega)
      have e5 : decide (k < l.length) = false := decide_eq_false hkl
      have hg := HG.out
      have ha := HA.out
      have hv := HV.out
      rw [hke, List.take_length] at hg ha hv
      have HGA := Aside0.mk hg
      have HAA := Aside0.mk ha
      obtain ⟨LV, hLV⟩ : ∃ LV, l.map refS = LV := ⟨_, rfl⟩
      have HLN : Aside0 (LV.length = l.length) := ⟨by rw [← hLV, List.length_map]⟩
      have HLV := Aside0.mk hLV
      rw [hLV] at hv
      obtain ⟨A7, c7, rfl, hc7, hC7⟩ := Kd.R_reads hv
      have HP7 : Aside0 (∀ ad, A7 = some ad → ∃ g, ad = ⟨g, 0, none⟩) := ⟨fun ad hA => by subst hA; exact R_plain hv⟩
      have HC7 := Aside0.mk hC7
      have HC7L := Aside0.mk hc7
      have hwr := wrap_small ((l.length : Int) + 1) (by omega) (by have := HL.out; omega)
      have hsm : IntKind.u64.wrap ((l.length : Int) + 1) = (l.length : Int) + 1 := by rw [IntKind.wrap_u64]; have := HL.out; omega
      have hl0 : ((l.length : Int) + 1 == 0) = false := by rw [beq_eq_false_iff_ne]; omega
      clear hke hkl hk hg ha hv hLV hC7 hc7 HG HA HV
      go_upto_region 18 with fail
      rw [HM.out]
      clear e4 e5 hwr hsm hl0
      go_wp2_with fail
      refine (newH wr 3 32 none 0 [] (C_none8 wr) (by decide) (by decide) (by decide) (by decide) (by decide) (by decide)).mono ?_
      rintro ev w2 ⟨g, rfl, hh, hbn⟩
      obtain ⟨S0, hS⟩ : ∃ S : Nat → Prop, (fun k => wr.heap.size ≤ k ∧ k < w2.heap.size) = S := ⟨_, rfl⟩
      rw [hS, new_mkC] at hh
      obtain ⟨w3, hw3⟩ : ∃ w3, wr = w3 := ⟨_, rfl⟩
      rw [hw3] at hh hbn HB HC7
      have HBN := Aside0.mk hbn
      have HH0 : Aside0 (Hd w2 w3.heap.size S0 g (mkC 32 (dbL l 0 0 false) 0 0 0)) := ⟨hh⟩
      clear hh hbn hS hw3
      go_upto_region 23 with fail
      go_loopw [80] (fun v80 wr => ∃ (k a : Nat) (bp : Int) (S : Nat → Prop), k ≤ l.length ∧ v80 = .int .i64 (k : Int) ∧ Aside0 (a = if k ≤ m then k else m) ∧ Aside0 (Hd wr w3.heap.size S g (mkC 32 (dbL l k a false) 0 bp 0)) ∧ Aside0 (Below w3.heap.size w3 wr)) (fun v80 _ => l.length - (intOf v80).toNat)
      case atStart => exact ⟨0, 0, 0, S0, Nat.zero_le _, rfl, ⟨by split <;> omega⟩, HH0, HBN⟩
      case round =>
        obtain ⟨k, a, bp, S, hk, rfl, HAK, HH, HBB⟩ := hrel
        clear HH0 HBN
        by_cases hkl : k < l.length
        · have e4 : decide ((k : Int) < (l.length : Int)) = true := decide_eq_true (by omega)
          have e5 : decide (k < l.length) = true := decide_eq_true hkl
          have e6 : (k : Int) < (l.length : Int) := by omega
          have HKL := Aside0.mk hkl
          have hw4 : wrap64 ((k : Int) + 1) = ((k + 1 : Nat) : Int) := by rw [show (k : Int) + 1 = ((k + 1 : Nat) : Int) by omega]; exact wrap_small _ (by omega) (by have := HL.out; omega)
          have HMS : Aside0 (l.length - ((k + 1 : Nat) : Int).toNat < l.length - ((k : Nat) : Int).toNat) := ⟨by omega⟩
          obtain ⟨x, hx⟩ : ∃ x, l[k]? = some x := ⟨_, List.getElem?_eq_getElem hkl⟩
          have hrd : rd_T28 l (k : Int) = x := by unfold rd_T28; rw [List.getD_eq_getElem?_getD, Int.toNat_natCast, hx]; rfl
          obtain ⟨ad, A5, c5, hA5, x0, x1, x2, hle5, hC5⟩ := at_T28 HC.out (k : Int) (by omega) e6
          have HBW := Aside0.mk (below_step (below_step HB1.out HB.out) HBB.out)
          rw [hrd] at x0 x1 x2 hle5 hC5
          rw [Int.toNat_natCast] at x0 x1 x2
          replace x0 := pw_cell_below HBW.out x0
          replace x1 := pw_cell_below HBW.out x1
          replace x2 := pw_cell_below HBW.out x2
          cases hA5
          have HX := Aside0.mk hx
          have HC5 := Aside0.mk hC5
          have HLE5 := Aside0.mk hle5
          have HXM : Aside0 (x ∈ l) := ⟨List.mem_of_getElem? hx⟩
          clear hkl hx hrd hC5 hle5 hk
          go_upto_region 25 with fail
          obtain ⟨w6, hw6⟩ : ∃ w6, wr.alloc (.cells #[.int .i64 x.f0, .int .i64 x.f1, .slice A5 x.f2.length c5] 28) = w6 := ⟨_, rfl⟩
          obtain ⟨b6, hb6⟩ : ∃ x, wr.heap.size = x := ⟨_, rfl⟩
          have hbl6 : Below wr.heap.size wr w6 := by rw [← hw6]; exact below_alloc (Below.refl _ _) _
          have HBW6 := Aside0.mk (below_step HBW.out hbl6)
          have HB6 := Aside0.mk (below_step HBB.out hbl6)
          have HH6 := Aside0.mk (HH.out.below hbl6)
          have hx6 : w6.heap[b6]? = some (.cells #[.int .i64 x.f0, .int .i64 x.f1, .slice A5 x.f2.length c5] 28 (0, 0)) := by rw [← hw6, ← hb6]; exact blk_new wr _
          rw [hw6, hb6]
          clear x0 x1 x2
          obtain ⟨x0, x1, x2, z0, z1, z2⟩ := Parse.three hx6
          clear hw6 hb6 hx6 hbl6 HH HBB HBW
          have HGX : Aside0 (GoodS x) := ⟨HGA.out x HXM.out⟩
          obtain ⟨kq, hkq⟩ := (refBytes_ev x.f0 x.f1 x.f2).rounds
          unfold bytesL at hkq
          rw [if_pos HGX.out.1] at hkq
          have HPR := Aside0.mk (db_prog1 a false bp HX.out HL.out HGX.out)
          have HPR2 : Aside0 (a = k → progS (mkC 32 (dbL l (k + 1) a false) 0 (wrap64 (bp + 1)) 0) ((2 : Nat) : Int) (k : Int) (laidL x.f0 x.f1 x.f2) = (mkC 32 (dbL l (k + 1) (k + 1) false) 0 (wrap64 (wrap64 (bp + 1) + 1)) 0, 0)) := ⟨fun e => by subst e; exact db_prog2 (a + 1) false (wrap64 (bp + 1)) HX.out HL.out HGX.out⟩
          obtain ⟨X, hX⟩ : ∃ X, laidL x.f0 x.f1 x.f2 = X := ⟨_, rfl⟩
          rw [hX] at hkq HPR HPR2
          have HKQ := Aside0.mk hkq
          have HPR1 : Aside0 (progS (mkC 32 (dbL l k a false) 0 bp 0) (0 : Int) (k : Int) X = (mkC 32 (dbL l (k + 1) a false) 0 (wrap64 (bp + 1)) 0, 0)) := ⟨HPR.out⟩
          clear hkq hX HPR
          go_wp2_with fail
          refine (potsherdref3_SheetBytes.calls kq x.f0 x.f1 A5 c5 x.f2 X 0 w6 (Kd.C_below HC5.out HBW6.out) HLE5.out HKQ.out).mono ?_
          rintro ev w11 ⟨v, rfl, hR11, hb11⟩
          obtain ⟨A11, c11, rfl, hz11, hC11⟩ := Kd.R_reads hR11
          have HCH := Aside0.mk (HH6.out.below hb11)
          have HA11 : Aside0 (∀ a_, A11 = some a_ → a_.block < w11.heap.size ∧ ¬ S a_.block) := ⟨fun a_ hA => by
            obtain ⟨q1, q2⟩ := R_at hR11 a_ hA
            refine ⟨q2, fun hs => ?_⟩
            have := HH6.out.lt _ hs
            omega⟩
          have HC11 := Aside0.mk hC11
          have HZ11 := Aside0.mk hz11
          have HR11 := Aside0.mk (Kd.R_bound hR11)
          have HS6 : Aside0 (∀ k, S k → k < w6.heap.size) := ⟨HH6.out.lt⟩
          have HB11 := Aside0.mk (below_step HB6.out hb11)
          clear hR11 hb11 hz11 hC11 x0 x1 x2 z0 z1 z2 HH6 HB6 HBW6
          by_cases hkm : k < m
          · have d1 : decide ((k : Int) < (m : Int)) = true := decide_eq_true (by omega)
            have d2 : decide (k < m) = true := decide_eq_true hkm
            have hak : a = k := by rw [HAK.out, if_pos (by omega)]
            have HPQ : Aside0 (progS (mkC 32 (dbL l (k + 1) a false) 0 (wrap64 (bp + 1)) 0) (2 : Int) (k : Int) X = (mkC 32 (dbL l (k + 1) (k + 1) false) 0 (wrap64 (wrap64 (bp + 1) + 1)) 0, 0)) := ⟨HPR2.out hak⟩
            have HKM := Aside0.mk hkm
            clear hkm hak HPR2
            go_wp2_with fail
            refine (programH HCH.out 0 (k : Int) A11 c11 X HC11.out HZ11.out HA11.out).mono ?_
            rintro ev w12 ⟨rfl, S12, hh12, hn12⟩
            rw [HPR1.out] at hh12 ⊢
            have HH12 := Aside0.mk hh12
            have HB12 := Aside0.mk (HB11.out.trans hn12.bel)
            have hR12 := hn12.R HR11.out (fun k hk hs => by have := HS6.out k hs; have := hk.2.1; omega)
            obtain ⟨A12, c12, hv12, -, hC12⟩ := Kd.R_reads hR12
            cases hv12
            have HC12 := Aside0.mk hC12
            have HA12 : Aside0 (∀ a_, A11 = some a_ → a_.block < w12.heap.size ∧ ¬ S12 a_.block) := ⟨fun a_ hA => by
              obtain ⟨q1, q2⟩ := HA11.out a_ hA
              exact ⟨Nat.lt_of_lt_of_le q1 hn12.bel.size, hn12.not q1 q2⟩⟩
            clear hh12 hn12 hR12 hC12 HCH HA11 HC11 HR11 HB11 HS6
            go_wp2_with fail
            refine (programH HH12.out 2 (k : Int) A11 c11 X HC12.out HZ11.out HA12.out).mono ?_
            rintro ev w13 ⟨rfl, S13, hh13, hn13⟩
            rw [HPQ.out] at hh13 ⊢
            have HH13 := Aside0.mk hh13
            have HB13 := Aside0.mk (HB12.out.trans hn13.bel)
            clear hh13 hn13 HH12 HB12 HC12 HA12
            go_wp2_with fail
            go_roundw
            case measure => first | exact HMS.out | (rw [hw4]; exact HMS.out)
            case rel => exact ⟨k + 1, k + 1, wrap64 (wrap64 (bp + 1) + 1), S13, HKL.out, by first | rw [hw4] | rfl, ⟨by rw [if_pos (by have := HKM.out; omega)]⟩, HH13, HB13⟩
          · have d1 : decide ((k : Int) < (m : Int)) = false := decide_eq_false (by omega)
            have d2 : decide (k < m) = false := decide_eq_false hkm
            have HKM := Aside0.mk hkm
            clear hkm HPR2
            go_wp2_with fail
            refine (programH HCH.out 0 (k : Int) A11 c11 X HC11.out HZ11.out HA11.out).mono ?_
            rintro ev w12 ⟨rfl, S12, hh12, hn12⟩
            rw [HPR1.out] at hh12 ⊢
            have HH12 := Aside0.mk hh12
            have HB12 := Aside0.mk (HB11.out.trans hn12.bel)
            clear hh12 hn12 HCH HA11 HC11 HR11 HB11 HS6
            go_wp2_with fail
            go_roundw
            case measure => first | exact HMS.out | (rw [hw4]; exact HMS.out)
            case rel => exact ⟨k + 1, a, wrap64 (bp + 1), S12, HKL.out, by first | rw [hw4] | rfl, ⟨by have h1_ := HAK.out; have h2_ := HKM.out; rw [if_neg (by omega)]; split at h1_ <;> omega⟩, HH12, HB12⟩
        · have hke : k = l.length := by omega
          have e4 : decide ((k : Int) < (l.length : Int)) = false := decide_eq_false (by omega)
          have e5 : decide (k < l.length) = false := decide_eq_false hkl
          have ham : a = m := by have h1_ := HAK.out; have h2_ := HML.out; split at h1_ <;> omega
          have hh := HH.out
          rw [hke, ham] at hh
          have HHA := Aside0.mk hh
          have HOK := Aside0.mk (dbL_ok (l := l) l.length m false HL.out HGA.out)
          have HN3 : Aside0 ((dbL l l.length m false).length = 3) := ⟨dbL_len _ _ _ _⟩
          clear hke hkl hk ham hh HAK HH
          go_wp2_with fail
          refine (sd_new HBB.out HHA.out HOK.out (by rw [HN3.out]; decide)).mono ?_
          rintro ev w4 ⟨q, rfl, -, -, hs4⟩
          have HS4 := Aside0.mk hs4
          clear hs4
          go_wp2_with fail
          refine (sd_step HS4.out HOK.out (by rw [HN3.out]; decide) (by rw [HN3.out]; decide) (by decide) (by decide) 1000 (by decide) (Nat.zero_le _) 96 (by rw [HN3.out]; rfl)).mono ?_
          rintro ev w5 ⟨rfl, hs5⟩
          have hs5' := hs5.over (by rw [HN3.out]; decide) (by rw [HN3.out]; decide) (by decide) (by decide) (by rw [HN3.out]; decide)
          rw [db_F m false HL.out HGA.out] at hs5'
          have HS5 := Aside0.mk hs5'
          clear hs5 hs5' HS4 HHA
          have HBT5 := Aside0.mk HS5.out.below
          go_wp2_with fail
          refine (sc_pick (live := LV) HS5.out (Kd.C_below HC7.out HBT5.out) HC7L.out (by have := dbF_len l m false; have := HL.out; omega) (by rw [HLN.out]; have := HL.out; omega) (dbF_wf m false (by have := HL.out; omega) HGA.out) (dbF_ap l m false)).mono ?_
          rintro ev w6 ⟨v, rfl, hR6, hb6⟩
          obtain ⟨Bk, hBk⟩ : ∃ B, dbB l m false = B := ⟨_, rfl⟩
          rw [← HLV.out, db_all HAA.out m HML.out false, hBk] at hR6
          rw [← HLV.out, db_all HAA.out m HML.out false, HLV.out, HLN.out]
          obtain ⟨A20, c20, rfl, hc20, hC20⟩ := Kd.R_reads hR6
          have hfl : (fds Bk l).length = l.length := fds_len Bk l
          have HP20 : Aside0 (∀ ad, A20 = some ad → ∃ g, ad = ⟨g, 0, none⟩) := ⟨fun ad hA => by subst hA; exact R_plain hR6⟩
          have HC20 := Aside0.mk hC20
          have HBT6 := Aside0.mk (below_step HBT5.out hb6)
          rw [hfl]
          have HFL := Aside0.mk hfl
          clear hfl hBk hR6 hb6 hc20 hC20 HS5 HBT5
          go_upto_region 35 with fail
          go_loopw [133] (fun v133 wr => ∃ (i : Nat), i ≤ l.length ∧ v133 = .int .i64 (i : Int) ∧ Aside0 (Below w6.heap.size w6 wr)) (fun v133 _ => l.length - (intOf v133).toNat)
          case atStart => exact ⟨0, Nat.zero_le _, rfl, ⟨Below.refl _ _⟩⟩
          case round =>
            obtain ⟨i, hi, rfl, HBI⟩ := hrel
            clear e4 e5
            by_cases hil : i < l.length
            · have e4 : decide ((i : Int) < (l.length : Int)) = true := decide_eq_true (by omega)
              have e5 : decide (i < l.length) = true := decide_eq_true hil
              have e6 : (i : Int) < (l.length : Int) := by omega
              have e7 : 0 < l.length := by omega
              have e8 : (0 : Int) < (l.length : Int) := by omega
              have HIL := Aside0.mk hil
              have hw4 : wrap64 ((i : Int) + 1) = ((i + 1 : Nat) : Int) := by rw [show (i : Int) + 1 = ((i + 1 : Nat) : Int) by omega]; exact wrap_small _ (by omega) (by have := HL.out; omega)
              have HMS : Aside0 (l.length - ((i + 1 : Nat) : Int).toNat < l.length - ((i : Nat) : Int).toNat) := ⟨by omega⟩
              obtain ⟨x, hx⟩ : ∃ x, l[i]? = some x := ⟨_, List.getElem?_eq_getElem hil⟩
              obtain ⟨ad2, rfl, g0, g1, g2, g3⟩ := fdAt HC20.out i (by rw [HFL.out]; exact hil)
              obtain ⟨ad3, hA3, -, -, k2_, -⟩ := fdAt HC20.out 0 (by rw [HFL.out]; omega)
              cases hA3
              obtain ⟨b20, rfl⟩ := HP20.out ad2 rfl
              rw [fds_getD Bk l i x hx] at g0 g1 g2 g3
              obtain ⟨x_, hx_⟩ : ∃ x, l[0]? = some x := ⟨_, List.getElem?_eq_getElem (by omega)⟩
              rw [fds_getD Bk l 0 x_ hx_] at k2_
              obtain ⟨ad4, hA4, r0, r1⟩ := rfAt HC7.out i (refS x) (by rw [← HLV.out, List.getElem?_map, hx]; rfl)
              obtain ⟨b7, rfl⟩ := HP7.out ad4 hA4
              cases hA4
              simp only [add_at, Nat.zero_mul, Nat.zero_add, asF] at g0 g1 g2 g3 k2_ r0 r1
              replace g0 := pw_cell_below HBI.out g0
              replace g1 := pw_cell_below HBI.out g1
              replace g2 := pw_cell_below HBI.out g2
              replace g3 := pw_cell_below HBI.out g3
              replace k2_ := pw_cell_below HBI.out k2_
              replace r0 := pw_cell_below (below_step HBT6.out HBI.out) r0
              replace r1 := pw_cell_below (below_step HBT6.out HBI.out) r1
              have HR_ := Aside0.mk (And.intro r0 (And.intro r1 k2_))
              clear hil hi hx hx_ x_ r0 r1 k2_
              go_upto_region 37 with fail
              obtain ⟨w7, hw7⟩ : ∃ w7, wr.alloc (.cells #[.int .i64 x.f0, .int .i64 x.f1, .int .i64 (Bk : Int), .int .i64 (i : Int)] 49) = w7 := ⟨_, rfl⟩
              obtain ⟨b23, hb23⟩ : ∃ b, wr.heap.size = b := ⟨_, rfl⟩
              have hbl7 : Below wr.heap.size wr w7 := by rw [← hw7]; exact below_alloc (Below.refl _ _) _
              have HX23 : Aside0 (w7.heap[b23]? = some (.cells #[.int .i64 x.f0, .int .i64 x.f1, .int .i64 (Bk : Int), .int .i64 (i : Int)] 49 (0, 0))) := ⟨by rw [← hw7, ← hb23]; exact blk_new wr _⟩
              have HL23 : Aside0 (w7.cell? ⟨b7, i * 2, none⟩ = some (.int .i64 x.f0) ∧ w7.cell? ⟨b7, i * 2 + 1, none⟩ = some (.int .i64 x.f1) ∧ w7.cell? ⟨b20, 2, none⟩ = some (.int .i64 (Bk : Int))) := ⟨⟨pw_cell_below hbl7 HR_.out.1, pw_cell_below hbl7 HR_.out.2.1, pw_cell_below hbl7 HR_.out.2.2⟩⟩
              have HBI7 := Aside0.mk (below_step HBI.out hbl7)
              rw [hw7, hb23]
              clear hw7 hb23 hbl7 HR_ HBI g0 g1 g2 g3
              refine start_ (n := 25) (S := fun w' => (w'.cell? ⟨b23, 0, none⟩ = some (.int .i64 x.f0) ∧ w'.cell? ⟨b23, 1, none⟩ = some (.int .i64 x.f1) ∧ w'.cell? ⟨b23, 2, none⟩ = some (.int .i64 (Bk : Int)) ∧ w'.cell? ⟨b23, 3, none⟩ = some (.int .i64 (i : Int))) ∧ w'.cell? ⟨b7, i * 2, none⟩ = some (.int .i64 x.f0) ∧ w'.cell? ⟨b7, i * 2 + 1, none⟩ = some (.int .i64 x.f1) ∧ w'.cell? ⟨b20, 2, none⟩ = some (.int .i64 (Bk : Int))) (ds := []) #[false, false, false, false, false, false, false, false, false, false, false, false, false, false, false, false, false, false, false, false, false, false, false, false, false] (by kernel_rfl) rfl rfl (dbHeld HX23.out HL23.out (below_drew (Below.refl _ _))) (fun hHeld => ?_)
              refine with_tabW reg_LwDoubles_37.tab reg_LwDoubles_37.bits (fun HT_ HW_ => ?_)
              refine pure_ (i := 0) (N := (some 138)) (v := ?_) (a' := ?_) #[true, false, false, false, false, false, false, false, false, false, false, false, false, false, false, false, false, false, false, false, false, false, false, false, false] rfl rfl (any_of HT_.out (by kernel_rfl)) (fun _ _ _ h => h) (Or.inl ⟨by rfl, ?_⟩) ?_ ?_
              rotate_left
              · intro w'
                go_simp
                first | done | with_reducible rfl
              rotate_left
              · simp only [Act.put, List.setIfInBounds_toArray, List.set_cons_zero, List.set_cons_succ, i64_w, i32_w]
                rfl
              refine take_ (i := 1) (N := (some 139)) (v := ?_) (a' := ?_) #[true, true, false, false, false, false, false, false, false, false, false, false, false, false, false, false, false, false, false, false, false, false, false, false, false] rfl rfl (take_ofW HT_.out HW_.out (by kernel_rfl)) (fun _ _ _ h => h) (Or.inl ⟨by rfl, ?_⟩) hHeld ?_ ?_
              rotate_left
              · rintro w' ⟨⟨s0, s1, s2, s3⟩, s4, s5, s6⟩
                go_simp
                first | done | with_reducible rfl
              rotate_left
              · simp only [Act.put, List.setIfInBounds_toArray, List.set_cons_zero, List.set_cons_succ, i64_w, i32_w]
                rfl
              refine pure_ (i := 2) (N := (some 140)) (v := ?_) (a' := ?_) #[true, true, true, false, false, false, false, false, false, false, false, false, false, false, false, false, false, false, false, false, false, false, false, false, false] rfl rfl (any_of HT_.out (by kernel_rfl)) (fun _ _ _ h => h) (Or.inl ⟨by rfl, ?_⟩) ?_ ?_
              rotate_left
              · intro w'
                go_simp
                first | done | with_reducible rfl
              rotate_left
              · simp only [Act.put, List.setIfInBounds_toArray, List.set_cons_zero, List.set_cons_succ, i64_w, i32_w]
                rfl
              refine pure_ (i := 3) (N := (some 141)) (v := ?_) (a' := ?_) #[true, true, true, true, false, false, false, false, false, false, false, false, false, false, false, false, false, false, false, false, false, false, false, false, false] rfl rfl (any_of HT_.out (by kernel_rfl)) (fun _ _ _ h => h) (Or.inl ⟨by rfl, ?_⟩) ?_ ?_
              rotate_left
              · intro w'
                go_simp
                first | done | with_reducible rfl
              rotate_left
              · simp only [Act.put, List.setIfInBounds_toArray, List.set_cons_zero, List.set_cons_succ, i64_w, i32_w]
                rfl
              refine pure_ (i := 4) (N := (some 142)) (v := ?_) (a' := ?_) #[true, true, true, true, true, false, false, false, false, false, false, false, false, false, false, false, false, false, false, false, false, false, false, false, false] rfl rfl (any_of HT_.out (by kernel_rfl)) (fun _ _ _ h => h) (Or.inl ⟨by rfl, ?_⟩) ?_ ?_
              rotate_left
              · intro w'
                go_simp
                first | done | with_reducible rfl
              rotate_left
              · simp only [Act.put, List.setIfInBounds_toArray, List.set_cons_zero, List.set_cons_succ, i64_w, i32_w]
                rfl
              refine take_ (i := 5) (N := (some 143)) (v := ?_) (a' := ?_) #[true, true, true, true, true, true, false, false, false, false, false, false, false, false, false, false, false, false, false, false, false, false, false, false, false] rfl rfl (take_ofW HT_.out HW_.out (by kernel_rfl)) (fun _ _ _ h => h) (Or.inl ⟨by rfl, ?_⟩) hHeld ?_ ?_
              rotate_left
              · rintro w' ⟨⟨s0, s1, s2, s3⟩, s4, s5, s6⟩
                go_simp
                first | done | with_reducible rfl
              rotate_left
              · simp only [Act.put, List.setIfInBounds_toArray, List.set_cons_zero, List.set_cons_succ, i64_w, i32_w]
                rfl
              refine pure_ (i := 6) (N := (some 144)) (v := ?_) (a' := ?_) #[true, true, true, true, true, true, true, false, false, false, false, false, false, false, false, false, false, false, false, false, false, false, false, false, false] rfl rfl (any_of HT_.out (by kernel_rfl)) (fun _ _ _ h => h) (Or.inl ⟨by rfl, ?_⟩) ?_ ?_
              rotate_left
              · intro w'
                go_simp
                first | done | with_reducible rfl
              rotate_left
              · simp only [Act.put, List.setIfInBounds_toArray, List.set_cons_zero, List.set_cons_succ, i64_w, i32_w]
                rfl
              refine pure_ (i := 7) (N := (some 145)) (v := ?_) (a' := ?_) #[true, true, true, true, true, true, true, true, false, false, false, false, false, false, false, false, false, false, false, false, false, false, false, false, false] rfl rfl (any_of HT_.out (by kernel_rfl)) (fun _ _ _ h => h) (Or.inl ⟨by rfl, ?_⟩) ?_ ?_
              rotate_left
              · intro w'
                go_simp
                first | done | with_reducible rfl
              rotate_left
              · simp only [Act.put, List.setIfInBounds_toArray, List.set_cons_zero, List.set_cons_succ, i64_w, i32_w]
                rfl
              refine pure_ (i := 8) (N := (some 146)) (v := ?_) (a' := ?_) #[true, true, true, true, true, true, true, true, true, false, false, false, false, false, false, false, false, false, false, false, false, false, false, false, false] rfl rfl (any_of HT_.out (by kernel_rfl)) (fun _ _ _ h => h) (Or.inl ⟨by rfl, ?_⟩) ?_ ?_
              rotate_left
              · intro w'
                go_simp
                first | done | with_reducible rfl
              rotate_left
              · simp only [Act.put, List.setIfInBounds_toArray, List.set_cons_zero, List.set_cons_succ, i64_w, i32_w]
                rfl
              refine pure_ (i := 9) (N := (some 147)) (v := ?_) (a' := ?_) #[true, true, true, true, true, true, true, true, true, true, false, false, false, false, false, false, false, false, false, false, false, false, false, false, false] rfl rfl (any_of HT_.out (by kernel_rfl)) (fun _ _ _ h => h) (Or.inl ⟨by rfl, ?_⟩) ?_ ?_
              rotate_left
              · intro w'
                go_simp
                first | done | with_reducible rfl
              rotate_left
              · simp only [Act.put, List.setIfInBounds_toArray, List.set_cons_zero, List.set_cons_succ, i64_w, i32_w]
                rfl
              refine take_ (i := 10) (N := (some 148)) (v := ?_) (a' := ?_) #[true, true, true, true, true, true, true, true, true, true, true, false, false, false, false, false, false, false, false, false, false, false, false, false, false] rfl rfl (take_ofW HT_.out HW_.out (by kernel_rfl)) (fun _ _ _ h => h) (Or.inl ⟨by rfl, ?_⟩) hHeld ?_ ?_
              rotate_left
              · rintro w' ⟨⟨s0, s1, s2, s3⟩, s4, s5, s6⟩
                go_simp
                first | done | with_reducible rfl
              rotate_left
              · simp only [Act.put, List.setIfInBounds_toArray, List.set_cons_zero, List.set_cons_succ, i64_w, i32_w]
                rfl
              refine pure_ (i := 11) (N := (some 149)) (v := ?_) (a' := ?_) #[true, true, true, true, true, true, true, true, true, true, true, true, false, false, false, false, false, false, false, false, false, false, false, false, false] rfl rfl (any_of HT_.out (by kernel_rfl)) (fun _ _ _ h => h) (Or.inl ⟨by rfl, ?_⟩) ?_ ?_
              rotate_left
              · intro w'
                go_simp
                first | done | with_reducible rfl
              rotate_left
              · simp only [Act.put, List.setIfInBounds_toArray, List.set_cons_zero, List.set_cons_succ, i64_w, i32_w]
                rfl
              refine pure_ (i := 12) (N := (some 150)) (v := ?_) (a' := ?_) #[true, true, true, true, true, true, true, true, true, true, true, true, true, false, false, false, false, false, false, false, false, false, false, false, false] rfl rfl (any_of HT_.out (by kernel_rfl)) (fun _ _ _ h => h) (Or.inl ⟨by rfl, ?_⟩) ?_ ?_
              rotate_left
              · intro w'
                go_simp
                first | done | with_reducible rfl
              rotate_left
              · simp only [Act.put, List.setIfInBounds_toArray, List.set_cons_zero, List.set_cons_succ, i64_w, i32_w]
                rfl
              refine pure_ (i := 13) (N := (some 151)) (v := ?_) (a' := ?_) #[true, true, true, true, true, true, true, true, true, true, true, true, true, true, false, false, false, false, false, false, false, false, false, false, false] rfl rfl (any_of HT_.out (by kernel_rfl)) (fun _ _ _ h => h) (Or.inl ⟨by rfl, ?_⟩) ?_ ?_
              rotate_left
              · intro w'
                go_simp
                first | done | with_reducible rfl
              rotate_left
              · simp only [Act.put, List.setIfInBounds_toArray, List.set_cons_zero, List.set_cons_succ, i64_w, i32_w]
                rfl
              refine pure_ (i := 14) (N := (some 152)) (v := ?_) (a' := ?_) #[true, true, true, true, true, true, true, true, true, true, true, true, true, true, true, false, false, false, false, false, false, false, false, false, false] rfl rfl (any_of HT_.out (by kernel_rfl)) (fun _ _ _ h => h) (Or.inl ⟨by rfl, ?_⟩) ?_ ?_
              rotate_left
              · intro w'
                go_simp
                first | done | with_reducible rfl
              rotate_left
              · simp only [Act.put, List.setIfInBounds_toArray, List.set_cons_zero, List.set_cons_succ, i64_w, i32_w]
                rfl
              refine take_ (i := 15) (N := (some 153)) (v := ?_) (a' := ?_) #[true, true, true, true, true, true, true, true, true, true, true, true, true, true, true, true, false, false, false, false, false, false, false, false, false] rfl rfl (take_ofW HT_.out HW_.out (by kernel_rfl)) (fun _ _ _ h => h) (Or.inl ⟨by rfl, ?_⟩) hHeld ?_ ?_
              rotate_left
              · rintro w' ⟨⟨s0, s1, s2, s3⟩, s4, s5, s6⟩
                go_simp
                first | done | with_reducible rfl
              rotate_left
              · simp only [Act.put, List.setIfInBounds_toArray, List.set_cons_zero, List.set_cons_succ, i64_w, i32_w]
                rfl
              refine pure_ (i := 16) (N := (some 154)) (v := ?_) (a' := ?_) #[true, true, true, true, true, true, true, true, true, true, true, true, true, true, true, true, true, false, false, false, false, false, false, false, false] rfl rfl (any_of HT_.out (by kernel_rfl)) (fun _ _ _ h => h) (Or.inl ⟨by rfl, ?_⟩) ?_ ?_
              rotate_left
              · intro w'
                go_simp
                first | done | with_reducible rfl
              rotate_left
              · simp only [Act.put, List.setIfInBounds_toArray, List.set_cons_zero, List.set_cons_succ, i64_w, i32_w]
                rfl
              refine pure_ (i := 17) (N := (some 155)) (v := ?_) (a' := ?_) #[true, true, true, true, true, true, true, true, true, true, true, true, true, true, true, true, true, true, false, false, false, false, false, false, false] rfl rfl (any_of HT_.out (by kernel_rfl)) (fun _ _ _ h => h) (Or.inl ⟨by rfl, ?_⟩) ?_ ?_
              rotate_left
              · intro w'
                go_simp
                first | done | with_reducible rfl
              rotate_left
              · simp only [Act.put, List.setIfInBounds_toArray, List.set_cons_zero, List.set_cons_succ, i64_w, i32_w]
                rfl
              refine pure_ (i := 18) (N := (some 156)) (v := ?_) (a' := ?_) #[true, true, true, true, true, true, true, true, true, true, true, true, true, true, true, true, true, true, true, false, false, false, false, false, false] rfl rfl (any_of HT_.out (by kernel_rfl)) (fun _ _ _ h => h) (Or.inl ⟨by rfl, ?_⟩) ?_ ?_
              rotate_left
              · intro w'
                go_simp
                first | done | with_reducible rfl
              rotate_left
              · simp only [Act.put, List.setIfInBounds_toArray, List.set_cons_zero, List.set_cons_succ, i64_w, i32_w]
                rfl
              refine pure_ (i := 19) (N := (some 157)) (v := ?_) (a' := ?_) #[true, true, true, true, true, true, true, true, true, true, true, true, true, true, true, true, true, true, true, true, false, false, false, false, false] rfl rfl (any_of HT_.out (by kernel_rfl)) (fun _ _ _ h => h) (Or.inl ⟨by rfl, ?_⟩) ?_ ?_
              rotate_left
              · intro w'
                go_simp
                first | done | with_reducible rfl
              rotate_left
              · simp only [Act.put, List.setIfInBounds_toArray, List.set_cons_zero, List.set_cons_succ, i64_w, i32_w]
                rfl
              refine pure_ (i := 20) (N := (some 158)) (v := ?_) (a' := ?_) #[true, true, true, true, true, true, true, true, true, true, true, true, true, true, true, true, true, true, true, true, true, false, false, false, false] rfl rfl (any_of HT_.out (by kernel_rfl)) (fun _ _ _ h => h) (Or.inl ⟨by rfl, ?_⟩) ?_ ?_
              rotate_left
              · intro w'
                go_simp
                first | done | with_reducible rfl
              rotate_left
              · simp only [Act.put, List.setIfInBounds_toArray, List.set_cons_zero, List.set_cons_succ, i64_w, i32_w]
                rfl
              refine take_ (i := 21) (N := (some 159)) (v := ?_) (a' := ?_) #[true, true, true, true, true, true, true, true, true, true, true, true, true, true, true, true, true, true, true, true, true, true, false, false, false] rfl rfl (take_ofW HT_.out HW_.out (by kernel_rfl)) (fun _ _ _ h => h) (Or.inl ⟨by rfl, ?_⟩) hHeld ?_ ?_
              rotate_left
              · rintro w' ⟨⟨s0, s1, s2, s3⟩, s4, s5, s6⟩
                go_simp
                first | done | with_reducible rfl
              rotate_left
              · simp only [Act.put, List.setIfInBounds_toArray, List.set_cons_zero, List.set_cons_succ, i64_w, i32_w]
                rfl
              refine pure_ (i := 22) (N := (some 160)) (v := ?_) (a' := ?_) #[true, true, true, true, true, true, true, true, true, true, true, true, true, true, true, true, true, true, true, true, true, true, true, false, false] rfl rfl (any_of HT_.out (by kernel_rfl)) (fun _ _ _ h => h) (Or.inl ⟨by rfl, ?_⟩) ?_ ?_
              rotate_left
              · intro w'
                go_simp
                first | done | with_reducible rfl
              rotate_left
              · simp only [Act.put, List.setIfInBounds_toArray, List.set_cons_zero, List.set_cons_succ, i64_w, i32_w]
                rfl
              refine pure_ (i := 23) (N := (some 161)) (v := ?_) (a' := ?_) #[true, true, true, true, true, true, true, true, true, true, true, true, true, true, true, true, true, true, true, true, true, true, true, true, false] rfl rfl (any_of HT_.out (by kernel_rfl)) (fun _ _ _ h => h) (Or.inl ⟨by rfl, ?_⟩) ?_ ?_
              rotate_left
              · intro w'
                go_simp
                first | done | with_reducible rfl
              rotate_left
              · simp only [Act.put, List.setIfInBounds_toArray, List.set_cons_zero, List.set_cons_succ, i64_w, i32_w]
                rfl
              refine pure_ (i := 24) (N := (some 162)) (v := ?_) (a' := ?_) #[true, true, true, true, true, true, true, true, true, true, true, true, true, true, true, true, true, true, true, true, true, true, true, true, true] rfl rfl (any_of HT_.out (by kernel_rfl)) (fun _ _ _ h => h) (Or.inl ⟨by rfl, ?_⟩) ?_ ?_
              rotate_left
              · intro w'
                go_simp
                first | done | with_reducible rfl
              rotate_left
              · simp only [Act.put, List.setIfInBounds_toArray, List.set_cons_zero, List.set_cons_succ, i64_w, i32_w]
                rfl
              refine done_ (done_of HT_.out (by kernel_rfl)) ?_
              go_wp2_with fail
              go_roundw
              case measure => first | exact HMS.out | (rw [hw4]; exact HMS.out)
              case rel => exact ⟨i + 1, HIL.out, by first | rw [hw4] | rfl, ⟨below_drew HBI7.out⟩⟩
            · have e4 : decide ((i : Int) < (l.length : Int)) = false := decide_eq_false (by omega)
              have e5 : decide (i < l.length) = false := decide_eq_false hil
              clear hil hi
              go_wp2_with fail
              refine (awake11 wr).mono ?_
              rintro ev w8 ⟨rfl, hb8⟩
              have HBF := Aside0.mk (below_step (below_step (below_step (below_step HB1.out HB.out) HBT6.out) HBI.out) hb8)
              clear hb8
              go_wp2_with fail
              go_ret
              exact ⟨rfl, HBF.out⟩
set_option maxHeartbeats 4000000 in
set_option maxRecDepth 100000 in
theorem dbWalkT {W : World} {A : Option Addr} {c : Nat} {l : List S28} (a1 : Int) (hC : Kd.C k28 W A l.length l) (hz : l.length ≤ c) (hl : l.length ≤ 32) (hlt : l.all ltB = true) (hby : ∀ x ∈ l, Bytes x.f2) (m : Nat) (hm : wrap64 (Int.tmod (IntKind.u64.wrap a1) ((l.length : Int) + 1)) = (m : Int)) (hml : m ≤ l.length) :
    Calls Try.prog 3 #[.slice A l.length c, .int .i64 a1, .bool true] W fun e w' => e = .returned (.bool true) ∧ Below W.heap.size W w' := by
  have HC := Aside0.mk hC
  have HZ := Aside0.mk hz
  have HL := Aside0.mk hl
  have HLT := Aside0.mk hlt
  have HBY := Aside0.mk hby
  have HM := Aside0.mk hm
  have HML := Aside0.mk hml
  have d1 : decide ((32 : Int) < l.length) = false := decide_eq_false (by omega)
  have d2 : decide (32 < l.length) = false := decide_eq_false (by omega)
  clear hC hz hl hlt hby hm hml
  go_enter Try.func3, Try.ntmps3
  go_wp2_with fail
  refine (light11 HC.out (by have := HL.out; omega)).mono ?_
  rintro ev w1 ⟨rfl, hb⟩
  rw [HLT.out]
  have HB1 := Aside0.mk hb
  clear hb
  go_upto_region 5 with fail
  clear d1 d2
  go_loopw [7, 35] (fun v7 v35 wr => ∃ (k : Nat), k ≤ l.length ∧ v35 = .int .i64 (k : Int) ∧ Aside0 (Kd.R k2 31 wr w1.heap.size (fun _ => True) v7 ((l.take k).map refS)) ∧ Aside0 (∀ x ∈ l.take k, GoodS x) ∧ Aside0 (Apart (l.take k)) ∧ Aside0 (Below w1.heap.size w1 wr)) (fun _ v35 _ => l.length - (intOf v35).toNat)
  case atStart => exact ⟨0, Nat.zero_le _, rfl, ⟨Kd.R_nil _ _ _ _ _⟩, ⟨fun x hx => by simp at hx⟩, ⟨List.Pairwise.nil⟩, ⟨Below.refl _ _⟩⟩
  case round =>
    obtain ⟨k, hk, rfl, HV, HG, HA, HB⟩ := hrel
    by_cases hkl : k < l.length
    · have e4 : decide ((k : Int) < (l.length : Int)) = true := decide_eq_true (by omega)
      have e5 : decide (k < l.length) = true := decide_eq_true hkl
      have e6 : (k : Int) < (l.length : Int) := by omega
      have HKL := Aside0.mk hkl
      have hw4 : wrap64 ((k : Int) + 1) = ((k + 1 : Nat) : Int) := by rw [show (k : Int) + 1 = ((k + 1 : Nat) : Int) by omega]; exact wrap_small _ (by omega) (by have := HL.out; omega)
      have HMS : Aside0 (l.length - ((k + 1 : Nat) : Int).toNat < l.length - ((k : Nat) : Int).toNat) := ⟨by omega⟩
      obtain ⟨x, hx⟩ : ∃ x, l[k]? = some x := ⟨_, List.getElem?_eq_getElem hkl⟩
      have hrd : rd_T28 l (k : Int) = x := by unfold rd_T28; rw [List.getD_eq_getElem?_getD, Int.toNat_natCast, hx]; rfl
      obtain ⟨ad, A5, c5, hA5, x0, x1, x2, hle5, hC5⟩ := at_T28 HC.out (k : Int) (by omega) e6
      have HBW := Aside0.mk (below_step HB1.out HB.out)
      rw [hrd] at x0 x1 x2 hle5 hC5
      rw [Int.toNat_natCast] at x0 x1 x2
      replace x0 := pw_cell_below HBW.out x0
      replace x1 := pw_cell_below HBW.out x1
      replace x2 := pw_cell_below HBW.out x2
      cases hA5
      have HX := Aside0.mk hx
      have HC5 := Aside0.mk hC5
      have HLE5 := Aside0.mk hle5
      have HXM : Aside0 (x ∈ l) := ⟨List.mem_of_getElem? hx⟩
      clear hkl hx hrd hC5 hle5 hk
      go_upto_region 7 with fail
      obtain ⟨w6, hw6⟩ : ∃ w6, wr.alloc (.cells #[.int .i64 x.f0, .int .i64 x.f1, .slice A5 x.f2.length c5] 28) = w6 := ⟨_, rfl⟩
      obtain ⟨b6, hb6⟩ : ∃ x, wr.heap.size = x := ⟨_, rfl⟩
      have hbl6 : Below wr.heap.size wr w6 := by rw [← hw6]; exact below_alloc (Below.refl _ _) _
      have HB6 := Aside0.mk (below_step HB.out hbl6)
      have HV6 := Aside0.mk (Kd.R_below HV.out hbl6)
      have hx6 : w6.heap[b6]? = some (.cells #[.int .i64 x.f0, .int .i64 x.f1, .slice A5 x.f2.length c5] 28 (0, 0)) := by rw [← hw6, ← hb6]; exact blk_new wr _
      have HX6 := Aside0.mk hx6
      rw [hw6, hb6]
      clear x0 x1 x2
      obtain ⟨x0, x1, x2, z0, z1, z2⟩ := Parse.three hx6
      clear hw6 hb6 hx6 hbl6 HV HB HBW
      obtain ⟨kq, hkq⟩ := (refMay_ev x.f0 x.f1 x.f2).rounds
      have HKQ := Aside0.mk hkq
      clear hkq
      by_cases hmy : mayB x.f0 x.f1 x.f2 = true
      · have HGX : Aside0 (GoodS x) := ⟨⟨hmy, HBY.out x HXM.out⟩⟩
        have HMY := Aside0.mk hmy
        clear hmy
        go_wp2_with fail
        refine (potsherdref3_MaySheet.calls kq x.f0 x.f1 A5 c5 x.f2 true w6 (Kd.C_below HC5.out (below_step HB1.out HB6.out)) HLE5.out (by rw [HKQ.out, HMY.out])).mono ?_
        rintro ev w7 ⟨rfl, hb7⟩
        have HB7 := Aside0.mk (below_step HB6.out hb7)
        have HV7 := Aside0.mk (Kd.R_below HV6.out hb7)
        have HX7 := Aside0.mk (blk_below HX6.out hb7)
        clear hb7 x0 x1 x2 z0 z1 z2 HB6 HV6 HX6
        have hkc : k ≤ c := by have := HKL.out; have := HZ.out; omega
        go_wp2_with fail
        go_loopw [48] (fun v48 wr => ∃ (j : Nat), j ≤ k ∧ v48 = .int .i64 (j : Int) ∧ Aside0 (∀ a y, a < j → l[a]? = some y → y.f0 ≠ x.f0) ∧ Aside0 (Below w7.heap.size w7 wr)) (fun v48 _ => k - (intOf v48).toNat)
        case atStart => exact ⟨0, Nat.zero_le _, rfl, ⟨fun a y ha => by omega⟩, ⟨Below.refl _ _⟩⟩
        case round =>
          obtain ⟨j, hj, rfl, HD, HBI⟩ := hrel
          have HXI := Aside0.mk (blk_below HX7.out HBI.out)
          by_cases hjk : j < k
          · have f4 : decide ((j : Int) < (k : Int)) = true := decide_eq_true (by omega)
            have f5 : decide (j < k) = true := decide_eq_true hjk
            have f6 : (j : Int) < (k : Int) := by omega
            have hjl : j < l.length := by have := HKL.out; omega
            have f7 : (j : Int) < (l.length : Int) := by omega
            have HJK := Aside0.mk hjk
            have hw5 : wrap64 ((j : Int) + 1) = ((j + 1 : Nat) : Int) := by rw [show (j : Int) + 1 = ((j + 1 : Nat) : Int) by omega]; exact wrap_small _ (by omega) (by have := HL.out; omega)
            have HMJ : Aside0 (k - ((j + 1 : Nat) : Int).toNat < k - ((j : Nat) : Int).toNat) := ⟨by omega⟩
            obtain ⟨y, hy⟩ : ∃ y, l[j]? = some y := ⟨_, List.getElem?_eq_getElem hjl⟩
            have hrd : rd_T28 l (j : Int) = y := by unfold rd_T28; rw [List.getD_eq_getElem?_getD, Int.toNat_natCast, hy]; rfl
            obtain ⟨ad', A8, c8, hA8, y0, y1, y2, -, -⟩ := at_T28 HC.out (j : Int) (by omega) f7
            have hbi := below_step (below_step HB1.out HB7.out) HBI.out
            rw [hrd] at y0 y1 y2
            rw [Int.toNat_natCast] at y0 y1 y2
            replace y0 := pw_cell_below hbi y0
            replace y1 := pw_cell_below hbi y1
            replace y2 := pw_cell_below hbi y2
            cases hA8
            have HY := Aside0.mk hy
            clear hjk hj hy hrd hbi hjl
            go_upto_region 12 with fail
            obtain ⟨w9, hw9⟩ : ∃ w9, wr.alloc (.cells #[.int .i64 y.f0, .int .i64 y.f1, .slice A8 y.f2.length c8] 28) = w9 := ⟨_, rfl⟩
            obtain ⟨b9, hb9⟩ : ∃ x, wr.heap.size = x := ⟨_, rfl⟩
            have hbl9 : Below wr.heap.size wr w9 := by rw [← hw9]; exact below_alloc (Below.refl _ _) _
            have HBI9 := Aside0.mk (below_step HBI.out hbl9)
            have hx9 : w9.heap[b9]? = some (.cells #[.int .i64 y.f0, .int .i64 y.f1, .slice A8 y.f2.length c8] 28 (0, 0)) := by rw [← hw9, ← hb9]; exact blk_new wr _
            rw [hw9, hb9]
            clear y0 y1 y2
            obtain ⟨y0, -, -, -, -, -⟩ := Parse.three hx9
            obtain ⟨x0, -, -, -, -, -⟩ := Parse.three (blk_below HXI.out hbl9)
            clear hw9 hb9 hx9 hbl9 HBI HXI
            by_cases he : y.f0 = x.f0
            · have g1 : (y.f0 == x.f0) = true := beq_iff_eq.2 he
              have g2 : decide (y.f0 = x.f0) = true := decide_eq_true he
              clear he
              go_wp2_with fail
              refine (awake11 w9).mono ?_
              rintro ev w10 ⟨rfl, hb10⟩
              have HBF := Aside0.mk (below_step (below_step (below_step HB1.out HB7.out) HBI9.out) hb10)
              clear hb10 y0 x0
              go_wp2_with fail
              go_ret
              exact ⟨rfl, HBF.out⟩
            · have g1 : (y.f0 == x.f0) = false := beq_eq_false_iff_ne.2 he
              have g2 : decide (y.f0 = x.f0) = false := decide_eq_false he
              have HE := Aside0.mk he
              clear he
              go_wp2_with fail
              clear y0 x0
              go_roundw
              case measure => first | exact HMJ.out | (rw [hw5]; exact HMJ.out)
              case rel =>
                refine ⟨j + 1, HJK.out, by first | rw [hw5] | rfl, ⟨fun a z ha hz => ?_⟩, HBI9⟩
                by_cases haj : a = j
                · subst haj
                  have h1_ := HY.out
                  rw [h1_] at hz
                  injection hz with hz
                  rw [← hz]
                  exact HE.out
                · exact HD.out a z (by omega) hz
          · have hje : j = k := by omega
            have f4 : decide ((j : Int) < (k : Int)) = false := decide_eq_false (by omega)
            have f5 : decide (j < k) = false := decide_eq_false hjk
            have hd := HD.out
            rw [hje] at hd
            have HDD := Aside0.mk hd
            have HVI := Aside0.mk (Kd.R_below HV7.out HBI.out)
            have HBII := Aside0.mk (below_step HB7.out HBI.out)
            obtain ⟨x0, x1, -, -, -, -⟩ := Parse.three HXI.out
            clear hje hjk hj hd HD HV7 HBI
            have HLL : Aside0 (((l.take k).map refS).length = k) := ⟨by rw [List.length_map, List.length_take]; have := HKL.out; omega⟩
            go_wp2_with ((with_reducible refine gate_builtin (b := .append) (xs := #[.tmp 59, .tmp 65]) rfl ?_); at_builtin; refine Kd.R_append k2 (w0 := w1) w1.heap.size rfl (.tmp 59) (.tmp 65) 25 31 (.agg #[.int .i64 0, .int .i64 0]) 16 rfl Try.underlying25 infoRF rfl (by decide) (by decide) u7 ((l.take k).map refS) (refS x) [.int .i64 x.f0, .int .i64 x.f1] (fun _ => True) (fun _ => False) rfl rfl (k2_mkM _ _ _ _) (fun _ hk => hk.elim) (fun _ _ => trivial) HVI.out HBII.out HBII.out.size ?aL ?_; (case aL => rw [HLL.out]; have := HKL.out; have := HL.out; omega); intro v9 w9 ho hb9 hg9 hat9; have HO := Aside0.mk ho; have HB9 := Aside0.mk hb9; clear ho hb9 hg9 hat9)
            go_roundw
            case measure => first | exact HMS.out | (rw [hw4]; exact HMS.out)
            case rel =>
              have ht_ : l.take (k + 1) = l.take k ++ [x] := take_snoc2 l k x HX.out
              refine ⟨k + 1, HKL.out, by first | rw [hw4] | rfl, ⟨by rw [ht_, List.map_append]; exact HO.out⟩, ⟨fun y hy => ?_⟩, ⟨?_⟩, HB9⟩
              · rw [ht_] at hy
                rcases List.mem_append.1 hy with hy | hy
                · exact HG.out y hy
                · rw [List.mem_singleton.1 hy]
                  exact HGX.out
              · rw [ht_]
                refine List.pairwise_append.2 ⟨HA.out, List.pairwise_singleton _ _, fun a ha b hb => ?_⟩
                rw [List.mem_singleton.1 hb]
                obtain ⟨i_, hi_, he_⟩ := List.getElem_of_mem ha
                have hik : i_ < k := by rw [List.length_take] at hi_; omega
                rw [List.getElem_take] at he_
                exact HDD.out i_ a hik (by rw [List.getElem?_eq_getElem (by have := HKL.out; omega), he_])
      · have hmf : mayB x.f0 x.f1 x.f2 = false := by simpa using hmy
        clear hmy
        go_wp2_with fail
        refine (potsherdref3_MaySheet.calls kq x.f0 x.f1 A5 c5 x.f2 false w6 (Kd.C_below HC5.out (below_step HB1.out HB6.out)) HLE5.out (by rw [HKQ.out, hmf])).mono ?_
        rintro ev w7 ⟨rfl, hb7⟩
        have HB7 := Aside0.mk (below_step (below_step HB1.out HB6.out) hb7)
        clear hb7 x0 x1 x2 z0 z1 z2
        go_wp2_with fail
        refine (awake11 w7).mono ?_
        rintro ev w8 ⟨rfl, hb8⟩
        have HBF := Aside0.mk (below_step HB7.out hb8)
        clear hb8
        go_wp2_with fail
        go_ret
        exact ⟨rfl, HBF.out⟩
    · have hke : k = l.length := by omega
      have e4 : decide ((k : Int) < (l.length : Int)) = false := decide_eq_false (by omega)
      have e5 : decide (k < l.length) = false := decide_eq_false hkl
      have hg := HG.out
      have ha := HA.out
      have hv := HV.out
      rw [hke, List.take_length] at hg ha hv
      have HGA := Aside0.mk hg
      have HAA := Aside0.mk ha
      obtain ⟨LV, hLV⟩ : ∃ LV, l.map refS = LV := ⟨_, rfl⟩
      have HLN : Aside0 (LV.length = l.length) := ⟨by rw [← hLV, List.length_map]⟩
      have HLV := Aside0.mk hLV
      rw [hLV] at hv
      obtain ⟨A7, c7, rfl, hc7, hC7⟩ := Kd.R_reads hv
      have HP7 : Aside0 (∀ ad, A7 = some ad → ∃ g, ad = ⟨g, 0, none⟩) := ⟨fun ad hA => by subst hA; exact R_plain hv⟩
      have HC7 := Aside0.mk hC7
      have HC7L := Aside0.mk hc7
      have hwr := wrap_small ((l.length : Int) + 1) (by omega) (by have := HL.out; omega)
      have hsm : IntKind.u64.wrap ((l.length : Int) + 1) = (l.length : Int) + 1 := by rw [IntKind.wrap_u64]; have := HL.out; omega
      have hl0 : ((l.length : Int) + 1 == 0) = false := by rw [beq_eq_false_iff_ne]; omega
      clear hke hkl hk hg ha hv hLV hC7 hc7 HG HA HV
      go_upto_region 18 with fail
      rw [HM.out]
      clear e4 e5 hwr hsm hl0
      go_wp2_with fail
      refine (newH wr 3 32 none 0 [] (C_none8 wr) (by decide) (by decide) (by decide) (by decide) (by decide) (by decide)).mono ?_
      rintro ev w2 ⟨g, rfl, hh, hbn⟩
      obtain ⟨S0, hS⟩ : ∃ S : Nat → Prop, (fun k => wr.heap.size ≤ k ∧ k < w2.heap.size) = S := ⟨_, rfl⟩
      rw [hS, new_mkC] at hh
      obtain ⟨w3, hw3⟩ : ∃ w3, wr = w3 := ⟨_, rfl⟩
      rw [hw3] at hh hbn HB HC7
      have HBN := Aside0.mk hbn
      have HH0 : Aside0 (Hd w2 w3.heap.size S0 g (mkC 32 (dbL l 0 0 true) 0 0 0)) := ⟨hh⟩
      clear hh hbn hS hw3
      go_upto_region 23 with fail
      go_loopw [80] (fun v80 wr => ∃ (k a : Nat) (bp : Int) (S : Nat → Prop), k ≤ l.length ∧ v80 = .int .i64 (k : Int) ∧ Aside0 (a = if k ≤ m then k else m) ∧ Aside0 (Hd wr w3.heap.size S g (mkC 32 (dbL l k a true) 0 bp 0)) ∧ Aside0 (Below w3.heap.size w3 wr)) (fun v80 _ => l.length - (intOf v80).toNat)
      case atStart => exact ⟨0, 0, 0, S0, Nat.zero_le _, rfl, ⟨by split <;> omega⟩, HH0, HBN⟩
      case round =>
        obtain ⟨k, a, bp, S, hk, rfl, HAK, HH, HBB⟩ := hrel
        clear HH0 HBN
        by_cases hkl : k < l.length
        · have e4 : decide ((k : Int) < (l.length : Int)) = true := decide_eq_true (by omega)
          have e5 : decide (k < l.length) = true := decide_eq_true hkl
          have e6 : (k : Int) < (l.length : Int) := by omega
          have HKL := Aside0.mk hkl
          have hw4 : wrap64 ((k : Int) + 1) = ((k + 1 : Nat) : Int) := by rw [show (k : Int) + 1 = ((k + 1 : Nat) : Int) by omega]; exact wrap_small _ (by omega) (by have := HL.out; omega)
          have HMS : Aside0 (l.length - ((k + 1 : Nat) : Int).toNat < l.length - ((k : Nat) : Int).toNat) := ⟨by omega⟩
          obtain ⟨x, hx⟩ : ∃ x, l[k]? = some x := ⟨_, List.getElem?_eq_getElem hkl⟩
          have hrd : rd_T28 l (k : Int) = x := by unfold rd_T28; rw [List.getD_eq_getElem?_getD, Int.toNat_natCast, hx]; rfl
          obtain ⟨ad, A5, c5, hA5, x0, x1, x2, hle5, hC5⟩ := at_T28 HC.out (k : Int) (by omega) e6
          have HBW := Aside0.mk (below_step (below_step HB1.out HB.out) HBB.out)
          rw [hrd] at x0 x1 x2 hle5 hC5
          rw [Int.toNat_natCast] at x0 x1 x2
          replace x0 := pw_cell_below HBW.out x0
          replace x1 := pw_cell_below HBW.out x1
          replace x2 := pw_cell_below HBW.out x2
          cases hA5
          have HX := Aside0.mk hx
          have HC5 := Aside0.mk hC5
          have HLE5 := Aside0.mk hle5
          have HXM : Aside0 (x ∈ l) := ⟨List.mem_of_getElem? hx⟩
          clear hkl hx hrd hC5 hle5 hk
          go_upto_region 25 with fail
          obtain ⟨w6, hw6⟩ : ∃ w6, wr.alloc (.cells #[.int .i64 x.f0, .int .i64 x.f1, .slice A5 x.f2.length c5] 28) = w6 := ⟨_, rfl⟩
          obtain ⟨b6, hb6⟩ : ∃ x, wr.heap.size = x := ⟨_, rfl⟩
          have hbl6 : Below wr.heap.size wr w6 := by rw [← hw6]; exact below_alloc (Below.refl _ _) _
          have HBW6 := Aside0.mk (below_step HBW.out hbl6)
          have HB6 := Aside0.mk (below_step HBB.out hbl6)
          have HH6 := Aside0.mk (HH.out.below hbl6)
          have hx6 : w6.heap[b6]? = some (.cells #[.int .i64 x.f0, .int .i64 x.f1, .slice A5 x.f2.length c5] 28 (0, 0)) := by rw [← hw6, ← hb6]; exact blk_new wr _
          rw [hw6, hb6]
          clear x0 x1 x2
          obtain ⟨x0, x1, x2, z0, z1, z2⟩ := Parse.three hx6
          clear hw6 hb6 hx6 hbl6 HH HBB HBW
          have HGX : Aside0 (GoodS x) := ⟨HGA.out x HXM.out⟩
          obtain ⟨kq, hkq⟩ := (refBytes_ev x.f0 x.f1 x.f2).rounds
          unfold bytesL at hkq
          rw [if_pos HGX.out.1] at hkq
          have HPR := Aside0.mk (db_prog1 a true bp HX.out HL.out HGX.out)
          have HPR2 : Aside0 (a = k → progS (mkC 32 (dbL l (k + 1) a true) 0 (wrap64 (bp + 1)) 0) ((0 : Nat) : Int) (k : Int) (laidL x.f0 x.f1 x.f2) = (mkC 32 (dbL l (k + 1) (k + 1) true) 0 (wrap64 (wrap64 (bp + 1) + 1)) 0, 0)) := ⟨fun e => by subst e; exact db_prog2 (a + 1) true (wrap64 (bp + 1)) HX.out HL.out HGX.out⟩
          obtain ⟨X, hX⟩ : ∃ X, laidL x.f0 x.f1 x.f2 = X := ⟨_, rfl⟩
          rw [hX] at hkq HPR HPR2
          have HKQ := Aside0.mk hkq
          have HPR1 : Aside0 (progS (mkC 32 (dbL l k a true) 0 bp 0) (2 : Int) (k : Int) X = (mkC 32 (dbL l (k + 1) a true) 0 (wrap64 (bp + 1)) 0, 0)) := ⟨HPR.out⟩
          clear hkq hX HPR
          go_wp2_with fail
          refine (potsherdref3_SheetBytes.calls kq x.f0 x.f1 A5 c5 x.f2 X 0 w6 (Kd.C_below HC5.out HBW6.out) HLE5.out HKQ.out).mono ?_
          rintro ev w11 ⟨v, rfl, hR11, hb11⟩
          obtain ⟨A11, c11, rfl, hz11, hC11⟩ := Kd.R_reads hR11
          have HCH := Aside0.mk (HH6.out.below hb11)
          have HA11 : Aside0 (∀ a_, A11 = some a_ → a_.block < w11.heap.size ∧ ¬ S a_.block) := ⟨fun a_ hA => by
            obtain ⟨q1, q2⟩ := R_at hR11 a_ hA
            refine ⟨q2, fun hs => ?_⟩
            have := HH6.out.lt _ hs
            omega⟩
          have HC11 := Aside0.mk hC11
          have HZ11 := Aside0.mk hz11
          have HR11 := Aside0.mk (Kd.R_bound hR11)
          have HS6 : Aside0 (∀ k, S k → k < w6.heap.size) := ⟨HH6.out.lt⟩
          have HB11 := Aside0.mk (below_step HB6.out hb11)
          clear hR11 hb11 hz11 hC11 x0 x1 x2 z0 z1 z2 HH6 HB6 HBW6
          by_cases hkm : k < m
          · have d1 : decide ((k : Int) < (m : Int)) = true := decide_eq_true (by omega)
            have d2 : decide (k < m) = true := decide_eq_true hkm
            have hak : a = k := by rw [HAK.out, if_pos (by omega)]
            have HPQ : Aside0 (progS (mkC 32 (dbL l (k + 1) a true) 0 (wrap64 (bp + 1)) 0) (0 : Int) (k : Int) X = (mkC 32 (dbL l (k + 1) (k + 1) true) 0 (wrap64 (wrap64 (bp + 1) + 1)) 0, 0)) := ⟨HPR2.out hak⟩
            have HKM := Aside0.mk hkm
            clear hkm hak HPR2
            go_wp2_with fail
            refine (programH HCH.out 2 (k : Int) A11 c11 X HC11.out HZ11.out HA11.out).mono ?_
            rintro ev w12 ⟨rfl, S12, hh12, hn12⟩
            rw [HPR1.out] at hh12 ⊢
            have HH12 := Aside0.mk hh12
            have HB12 := Aside0.mk (HB11.out.trans hn12.bel)
            have hR12 := hn12.R HR11.out (fun k hk hs => by have := HS6.out k hs; have := hk.2.1; omega)
            obtain ⟨A12, c12, hv12, -, hC12⟩ := Kd.R_reads hR12
            cases hv12
            have HC12 := Aside0.mk hC12
            have HA12 : Aside0 (∀ a_, A11 = some a_ → a_.block < w12.heap.size ∧ ¬ S12 a_.block) := ⟨fun a_ hA => by
              obtain ⟨q1, q2⟩ := HA11.out a_ hA
              exact ⟨Nat.lt_of_lt_of_le q1 hn12.bel.size, hn12.not q1 q2⟩⟩
            clear hh12 hn12 hR12 hC12 HCH HA11 HC11 HR11 HB11 HS6
            go_wp2_with fail
            refine (programH HH12.out 0 (k : Int) A11 c11 X HC12.out HZ11.out HA12.out).mono ?_
            rintro ev w13 ⟨rfl, S13, hh13, hn13⟩
            rw [HPQ.out] at hh13 ⊢
            have HH13 := Aside0.mk hh13
            have HB13 := Aside0.mk (HB12.out.trans hn13.bel)
            clear hh13 hn13 HH12 HB12 HC12 HA12
            go_wp2_with fail
            go_roundw
            case measure => first | exact HMS.out | (rw [hw4]; exact HMS.out)
            case rel => exact ⟨k + 1, k + 1, wrap64 (wrap64 (bp + 1) + 1), S13, HKL.out, by first | rw [hw4] | rfl, ⟨by rw [if_pos (by have := HKM.out; omega)]⟩, HH13, HB13⟩
          · have d1 : decide ((k : Int) < (m : Int)) = false := decide_eq_false (by omega)
            have d2 : decide (k < m) = false := decide_eq_false hkm
            have HKM := Aside0.mk hkm
            clear hkm HPR2
            go_wp2_with fail
            refine (programH HCH.out 2 (k : Int) A11 c11 X HC11.out HZ11.out HA11.out).mono ?_
            rintro ev w12 ⟨rfl, S12, hh12, hn12⟩
            rw [HPR1.out] at hh12 ⊢
            have HH12 := Aside0.mk hh12
            have HB12 := Aside0.mk (HB11.out.trans hn12.bel)
            clear hh12 hn12 HCH HA11 HC11 HR11 HB11 HS6
            go_wp2_with fail
            go_roundw
            case measure => first | exact HMS.out | (rw [hw4]; exact HMS.out)
            case rel => exact ⟨k + 1, a, wrap64 (bp + 1), S12, HKL.out, by first | rw [hw4] | rfl, ⟨by have h1_ := HAK.out; have h2_ := HKM.out; rw [if_neg (by omega)]; split at h1_ <;> omega⟩, HH12, HB12⟩
        · have hke : k = l.length := by omega
          have e4 : decide ((k : Int) < (l.length : Int)) = false := decide_eq_false (by omega)
          have e5 : decide (k < l.length) = false := decide_eq_false hkl
          have ham : a = m := by have h1_ := HAK.out; have h2_ := HML.out; split at h1_ <;> omega
          have hh := HH.out
          rw [hke, ham] at hh
          have HHA := Aside0.mk hh
          have HOK := Aside0.mk (dbL_ok (l := l) l.length m true HL.out HGA.out)
          have HN3 : Aside0 ((dbL l l.length m true).length = 3) := ⟨dbL_len _ _ _ _⟩
          clear hke hkl hk ham hh HAK HH
          go_wp2_with fail
          refine (sd_new HBB.out HHA.out HOK.out (by rw [HN3.out]; decide)).mono ?_
          rintro ev w4 ⟨q, rfl, -, -, hs4⟩
          have HS4 := Aside0.mk hs4
          clear hs4
          go_wp2_with fail
          refine (sd_step HS4.out HOK.out (by rw [HN3.out]; decide) (by rw [HN3.out]; decide) (by decide) (by decide) 1000 (by decide) (Nat.zero_le _) 96 (by rw [HN3.out]; rfl)).mono ?_
          rintro ev w5 ⟨rfl, hs5⟩
          have hs5' := hs5.over (by rw [HN3.out]; decide) (by rw [HN3.out]; decide) (by decide) (by decide) (by rw [HN3.out]; decide)
          rw [db_F m true HL.out HGA.out] at hs5'
          have HS5 := Aside0.mk hs5'
          clear hs5 hs5' HS4 HHA
          have HBT5 := Aside0.mk HS5.out.below
          go_wp2_with fail
          refine (sc_pick (live := LV) HS5.out (Kd.C_below HC7.out HBT5.out) HC7L.out (by have := dbF_len l m true; have := HL.out; omega) (by rw [HLN.out]; have := HL.out; omega) (dbF_wf m true (by have := HL.out; omega) HGA.out) (dbF_ap l m true)).mono ?_
          rintro ev w6 ⟨v, rfl, hR6, hb6⟩
          obtain ⟨Bk, hBk⟩ : ∃ B, dbB l m true = B := ⟨_, rfl⟩
          rw [← HLV.out, db_all HAA.out m HML.out true, hBk] at hR6
          rw [← HLV.out, db_all HAA.out m HML.out true, HLV.out, HLN.out]
          obtain ⟨A20, c20, rfl, hc20, hC20⟩ := Kd.R_reads hR6
          have hfl : (fds Bk l).length = l.length := fds_len Bk l
          have HP20 : Aside0 (∀ ad, A20 = some ad → ∃ g, ad = ⟨g, 0, none⟩) := ⟨fun ad hA => by subst hA; exact R_plain hR6⟩
          have HC20 := Aside0.mk hC20
          have HBT6 := Aside0.mk (below_step HBT5.out hb6)
          rw [hfl]
          have HFL := Aside0.mk hfl
          clear hfl hBk hR6 hb6 hc20 hC20 HS5 HBT5
          go_upto_region 35 with fail
          go_loopw [133] (fun v133 wr => ∃ (i : Nat), i ≤ l.length ∧ v133 = .int .i64 (i : Int) ∧ Aside0 (Below w6.heap.size w6 wr)) (fun v133 _ => l.length - (intOf v133).toNat)
          case atStart => exact ⟨0, Nat.zero_le _, rfl, ⟨Below.refl _ _⟩⟩
          case round =>
            obtain ⟨i, hi, rfl, HBI⟩ := hrel
            clear e4 e5
            by_cases hil : i < l.length
            · have e4 : decide ((i : Int) < (l.length : Int)) = true := decide_eq_true (by omega)
              have e5 : decide (i < l.length) = true := decide_eq_true hil
              have e6 : (i : Int) < (l.length : Int) := by omega
              have e7 : 0 < l.length := by omega
              have e8 : (0 : Int) < (l.length : Int) := by omega
              have HIL := Aside0.mk hil
              have hw4 : wrap64 ((i : Int) + 1) = ((i + 1 : Nat) : Int) := by rw [show (i : Int) + 1 = ((i + 1 : Nat) : Int) by omega]; exact wrap_small _ (by omega) (by have := HL.out; omega)
              have HMS : Aside0 (l.length - ((i + 1 : Nat) : Int).toNat < l.length - ((i : Nat) : Int).toNat) := ⟨by omega⟩
              obtain ⟨x, hx⟩ : ∃ x, l[i]? = some x := ⟨_, List.getElem?_eq_getElem hil⟩
              obtain ⟨ad2, rfl, g0, g1, g2, g3⟩ := fdAt HC20.out i (by rw [HFL.out]; exact hil)
              obtain ⟨ad3, hA3, -, -, k2_, -⟩ := fdAt HC20.out 0 (by rw [HFL.out]; omega)
              cases hA3
              obtain ⟨b20, rfl⟩ := HP20.out ad2 rfl
              rw [fds_getD Bk l i x hx] at g0 g1 g2 g3
              obtain ⟨x_, hx_⟩ : ∃ x, l[0]? = some x := ⟨_, List.getElem?_eq_getElem (by omega)⟩
              rw [fds_getD Bk l 0 x_ hx_] at k2_
              obtain ⟨ad4, hA4, r0, r1⟩ := rfAt HC7.out i (refS x) (by rw [← HLV.out, List.getElem?_map, hx]; rfl)
              obtain ⟨b7, rfl⟩ := HP7.out ad4 hA4
              cases hA4
              simp only [add_at, Nat.zero_mul, Nat.zero_add, asF] at g0 g1 g2 g3 k2_ r0 r1
              replace g0 := pw_cell_below HBI.out g0
              replace g1 := pw_cell_below HBI.out g1
              replace g2 := pw_cell_below HBI.out g2
              replace g3 := pw_cell_below HBI.out g3
              replace k2_ := pw_cell_below HBI.out k2_
              replace r0 := pw_cell_below (below_step HBT6.out HBI.out) r0
              replace r1 := pw_cell_below (below_step HBT6.out HBI.out) r1
              have HR_ := Aside0.mk (And.intro r0 (And.intro r1 k2_))
              clear hil hi hx hx_ x_ r0 r1 k2_
              go_upto_region 37 with fail
              obtain ⟨w7, hw7⟩ : ∃ w7, wr.alloc (.cells #[.int .i64 x.f0, .int .i64 x.f1, .int .i64 (Bk : Int), .int .i64 (i : Int)] 49) = w7 := ⟨_, rfl⟩
              obtain ⟨b23, hb23⟩ : ∃ b, wr.heap.size = b := ⟨_, rfl⟩
              have hbl7 : Below wr.heap.size wr w7 := by rw [← hw7]; exact below_alloc (Below.refl _ _) _
              have HX23 : Aside0 (w7.heap[b23]? = some (.cells #[.int .i64 x.f0, .int .i64 x.f1, .int .i64 (Bk : Int), .int .i64 (i : Int)] 49 (0, 0))) := ⟨by rw [← hw7, ← hb23]; exact blk_new wr _⟩
              have HL23 : Aside0 (w7.cell? ⟨b7, i * 2, none⟩ = some (.int .i64 x.f0) ∧ w7.cell? ⟨b7, i * 2 + 1, none⟩ = some (.int .i64 x.f1) ∧ w7.cell? ⟨b20, 2, none⟩ = some (.int .i64 (Bk : Int))) := ⟨⟨pw_cell_below hbl7 HR_.out.1, pw_cell_below hbl7 HR_.out.2.1, pw_cell_below hbl7 HR_.out.2.2⟩⟩
              have HBI7 := Aside0.mk (below_step HBI.out hbl7)
              rw [hw7, hb23]
              clear hw7 hb23 hbl7 HR_ HBI g0 g1 g2 g3
              refine start_ (n := 25) (S := fun w' => (w'.cell? ⟨b23, 0, none⟩ = some (.int .i64 x.f0) ∧ w'.cell? ⟨b23, 1, none⟩ = some (.int .i64 x.f1) ∧ w'.cell? ⟨b23, 2, none⟩ = some (.int .i64 (Bk : Int)) ∧ w'.cell? ⟨b23, 3, none⟩ = some (.int .i64 (i : Int))) ∧ w'.cell? ⟨b7, i * 2, none⟩ = some (.int .i64 x.f0) ∧ w'.cell? ⟨b7, i * 2 + 1, none⟩ = some (.int .i64 x.f1) ∧ w'.cell? ⟨b20, 2, none⟩ = some (.int .i64 (Bk : Int))) (ds := []) #[false, false, false, false, false, false, false, false, false, false, false, false, false, false, false, false, false, false, false, false, false, false, false, false, false] (by kernel_rfl) rfl rfl (dbHeld HX23.out HL23.out (below_drew (Below.refl _ _))) (fun hHeld => ?_)
              refine with_tabW reg_LwDoubles_37.tab reg_LwDoubles_37.bits (fun HT_ HW_ => ?_)
              refine pure_ (i := 0) (N := (some 138)) (v := ?_) (a' := ?_) #[true, false, false, false, false, false, false, false, false, false, false, false, false, false, false, false, false, false, false, false, false, false, false, false, false] rfl rfl (any_of HT_.out (by kernel_rfl)) (fun _ _ _ h => h) (Or.inl ⟨by rfl, ?_⟩) ?_ ?_
              rotate_left
              · intro w'
                go_simp
                first | done | with_reducible rfl
              rotate_left
              · simp only [Act.put, List.setIfInBounds_toArray, List.set_cons_zero, List.set_cons_succ, i64_w, i32_w]
                rfl
              refine take_ (i := 1) (N := (some 139)) (v := ?_) (a' := ?_) #[true, true, false, false, false, false, false, false, false, false, false, false, false, false, false, false, false, false, false, false, false, false, false, false, false] rfl rfl (take_ofW HT_.out HW_.out (by kernel_rfl)) (fun _ _ _ h => h) (Or.inl ⟨by rfl, ?_⟩) hHeld ?_ ?_
              rotate_left
              · rintro w' ⟨⟨s0, s1, s2, s3⟩, s4, s5, s6⟩
                go_simp
                first | done | with_reducible rfl
              rotate_left
              · simp only [Act.put, List.setIfInBounds_toArray, List.set_cons_zero, List.set_cons_succ, i64_w, i32_w]
                rfl
              refine pure_ (i := 2) (N := (some 140)) (v := ?_) (a' := ?_) #[true, true, true, false, false, false, false, false, false, false, false, false, false, false, false, false, false, false, false, false, false, false, false, false, false] rfl rfl (any_of HT_.out (by kernel_rfl)) (fun _ _ _ h => h) (Or.inl ⟨by rfl, ?_⟩) ?_ ?_
              rotate_left
              · intro w'
                go_simp
                first | done | with_reducible rfl
              rotate_left
              · simp only [Act.put, List.setIfInBounds_toArray, List.set_cons_zero, List.set_cons_succ, i64_w, i32_w]
                rfl
              refine pure_ (i := 3) (N := (some 141)) (v := ?_) (a' := ?_) #[true, true, true, true, false, false, false, false, false, false, false, false, false, false, false, false, false, false, false, false, false, false, false, false, false] rfl rfl (any_of HT_.out (by kernel_rfl)) (fun _ _ _ h => h) (Or.inl ⟨by rfl, ?_⟩) ?_ ?_
              rotate_left
              · intro w'
                go_simp
                first | done | with_reducible rfl
              rotate_left
              · simp only [Act.put, List.setIfInBounds_toArray, List.set_cons_zero, List.set_cons_succ, i64_w, i32_w]
                rfl
              refine pure_ (i := 4) (N := (some 142)) (v := ?_) (a' := ?_) #[true, true, true, true, true, false, false, false, false, false, false, false, false, false, false, false, false, false, false, false, false, false, false, false, false] rfl rfl (any_of HT_.out (by kernel_rfl)) (fun _ _ _ h => h) (Or.inl ⟨by rfl, ?_⟩) ?_ ?_
              rotate_left
              · intro w'
                go_simp
                first | done | with_reducible rfl
              rotate_left
              · simp only [Act.put, List.setIfInBounds_toArray, List.set_cons_zero, List.set_cons_succ, i64_w, i32_w]
                rfl
              refine take_ (i := 5) (N := (some 143)) (v := ?_) (a' := ?_) #[true, true, true, true, true, true, false, false, false, false, false, false, false, false, false, false, false, false, false, false, false, false, false, false, false] rfl rfl (take_ofW HT_.out HW_.out (by kernel_rfl)) (fun _ _ _ h => h) (Or.inl ⟨by rfl, ?_⟩) hHeld ?_ ?_
              rotate_left
              · rintro w' ⟨⟨s0, s1, s2, s3⟩, s4, s5, s6⟩
                go_simp
                first | done | with_reducible rfl
              rotate_left
              · simp only [Act.put, List.setIfInBounds_toArray, List.set_cons_zero, List.set_cons_succ, i64_w, i32_w]
                rfl
              refine pure_ (i := 6) (N := (some 144)) (v := ?_) (a' := ?_) #[true, true, true, true, true, true, true, false, false, false, false, false, false, false, false, false, false, false, false, false, false, false, false, false, false] rfl rfl (any_of HT_.out (by kernel_rfl)) (fun _ _ _ h => h) (Or.inl ⟨by rfl, ?_⟩) ?_ ?_
              rotate_left
              · intro w'
                go_simp
                first | done | with_reducible rfl
              rotate_left
              · simp only [Act.put, List.setIfInBounds_toArray, List.set_cons_zero, List.set_cons_succ, i64_w, i32_w]
                rfl
              refine pure_ (i := 7) (N := (some 145)) (v := ?_) (a' := ?_) #[true, true, true, true, true, true, true, true, false, false, false, false, false, false, false, false, false, false, false, false, false, false, false, false, false] rfl rfl (any_of HT_.out (by kernel_rfl)) (fun _ _ _ h => h) (Or.inl ⟨by rfl, ?_⟩) ?_ ?_
              rotate_left
              · intro w'
                go_simp
                first | done | with_reducible rfl
              rotate_left
              · simp only [Act.put, List.setIfInBounds_toArray, List.set_cons_zero, List.set_cons_succ, i64_w, i32_w]
                rfl
              refine pure_ (i := 8) (N := (some 146)) (v := ?_) (a' := ?_) #[true, true, true, true, true, true, true, true, true, false, false, false, false, false, false, false, false, false, false, false, false, false, false, false, false] rfl rfl (any_of HT_.out (by kernel_rfl)) (fun _ _ _ h => h) (Or.inl ⟨by rfl, ?_⟩) ?_ ?_
              rotate_left
              · intro w'
                go_simp
                first | done | with_reducible rfl
              rotate_left
              · simp only [Act.put, List.setIfInBounds_toArray, List.set_cons_zero, List.set_cons_succ, i64_w, i32_w]
                rfl
              refine pure_ (i := 9) (N := (some 147)) (v := ?_) (a' := ?_) #[true, true, true, true, true, true, true, true, true, true, false, false, false, false, false, false, false, false, false, false, false, false, false, false, false] rfl rfl (any_of HT_.out (by kernel_rfl)) (fun _ _ _ h => h) (Or.inl ⟨by rfl, ?_⟩) ?_ ?_
              rotate_left
              · intro w'
                go_simp
                first | done | with_reducible rfl
              rotate_left
              · simp only [Act.put, List.setIfInBounds_toArray, List.set_cons_zero, List.set_cons_succ, i64_w, i32_w]
                rfl
              refine take_ (i := 10) (N := (some 148)) (v := ?_) (a' := ?_) #[true, true, true, true, true, true, true, true, true, true, true, false, false, false, false, false, false, false, false, false, false, false, false, false, false] rfl rfl (take_ofW HT_.out HW_.out (by kernel_rfl)) (fun _ _ _ h => h) (Or.inl ⟨by rfl, ?_⟩) hHeld ?_ ?_
              rotate_left
              · rintro w' ⟨⟨s0, s1, s2, s3⟩, s4, s5, s6⟩
                go_simp
                first | done | with_reducible rfl
              rotate_left
              · simp only [Act.put, List.setIfInBounds_toArray, List.set_cons_zero, List.set_cons_succ, i64_w, i32_w]
                rfl
              refine pure_ (i := 11) (N := (some 149)) (v := ?_) (a' := ?_) #[true, true, true, true, true, true, true, true, true, true, true, true, false, false, false, false, false, false, false, false, false, false, false, false, false] rfl rfl (any_of HT_.out (by kernel_rfl)) (fun _ _ _ h => h) (Or.inl ⟨by rfl, ?_⟩) ?_ ?_
              rotate_left
              · intro w'
                go_simp
                first | done | with_reducible rfl
              rotate_left
              · simp only [Act.put, List.setIfInBounds_toArray, List.set_cons_zero, List.set_cons_succ, i64_w, i32_w]
                rfl
              refine pure_ (i := 12) (N := (some 150)) (v := ?_) (a' := ?_) #[true, true, true, true, true, true, true, true, true, true, true, true, true, false, false, false, false, false, false, false, false, false, false, false, false] rfl rfl (any_of HT_.out (by kernel_rfl)) (fun _ _ _ h => h) (Or.inl ⟨by rfl, ?_⟩) ?_ ?_
              rotate_left
              · intro w'
                go_simp
                first | done | with_reducible rfl
              rotate_left
              · simp only [Act.put, List.setIfInBounds_toArray, List.set_cons_zero, List.set_cons_succ, i64_w, i32_w]
                rfl
              refine pure_ (i := 13) (N := (some 151)) (v := ?_) (a' := ?_) #[true, true, true, true, true, true, true, true, true, true, true, true, true, true, false, false, false, false, false, false, false, false, false, false, false] rfl rfl (any_of HT_.out (by kernel_rfl)) (fun _ _ _ h => h) (Or.inl ⟨by rfl, ?_⟩) ?_ ?_
              rotate_left
              · intro w'
                go_simp
                first | done | with_reducible rfl
              rotate_left
              · simp only [Act.put, List.setIfInBounds_toArray, List.set_cons_zero, List.set_cons_succ, i64_w, i32_w]
                rfl
              refine pure_ (i := 14) (N := (some 152)) (v := ?_) (a' := ?_) #[true, true, true, true, true, true, true, true, true, true, true, true, true, true, true, false, false, false, false, false, false, false, false, false, false] rfl rfl (any_of HT_.out (by kernel_rfl)) (fun _ _ _ h => h) (Or.inl ⟨by rfl, ?_⟩) ?_ ?_
              rotate_left
              · intro w'
                go_simp
                first | done | with_reducible rfl
              rotate_left
              · simp only [Act.put, List.setIfInBounds_toArray, List.set_cons_zero, List.set_cons_succ, i64_w, i32_w]
                rfl
              refine take_ (i := 15) (N := (some 153)) (v := ?_) (a' := ?_) #[true, true, true, true, true, true, true, true, true, true, true, true, true, true, true, true, false, false, false, false, false, false, false, false, false] rfl rfl (take_ofW HT_.out HW_.out (by kernel_rfl)) (fun _ _ _ h => h) (Or.inl ⟨by rfl, ?_⟩) hHeld ?_ ?_
              rotate_left
              · rintro w' ⟨⟨s0, s1, s2, s3⟩, s4, s5, s6⟩
                go_simp
                first | done | with_reducible rfl
              rotate_left
              · simp only [Act.put, List.setIfInBounds_toArray, List.set_cons_zero, List.set_cons_succ, i64_w, i32_w]
                rfl
              refine pure_ (i := 16) (N := (some 154)) (v := ?_) (a' := ?_) #[true, true, true, true, true, true, true, true, true, true, true, true, true, true, true, true, true, false, false, false, false, false, false, false, false] rfl rfl (any_of HT_.out (by kernel_rfl)) (fun _ _ _ h => h) (Or.inl ⟨by rfl, ?_⟩) ?_ ?_
              rotate_left
              · intro w'
                go_simp
                first | done | with_reducible rfl
              rotate_left
              · simp only [Act.put, List.setIfInBounds_toArray, List.set_cons_zero, List.set_cons_succ, i64_w, i32_w]
                rfl
              refine pure_ (i := 17) (N := (some 155)) (v := ?_) (a' := ?_) #[true, true, true, true, true, true, true, true, true, true, true, true, true, true, true, true, true, true, false, false, false, false, false, false, false] rfl rfl (any_of HT_.out (by kernel_rfl)) (fun _ _ _ h => h) (Or.inl ⟨by rfl, ?_⟩) ?_ ?_
              rotate_left
              · intro w'
                go_simp
                first | done | with_reducible rfl
              rotate_left
              · simp only [Act.put, List.setIfInBounds_toArray, List.set_cons_zero, List.set_cons_succ, i64_w, i32_w]
                rfl
              refine pure_ (i := 18) (N := (some 156)) (v := ?_) (a' := ?_) #[true, true, true, true, true, true, true, true, true, true, true, true, true, true, true, true, true, true, true, false, false, false, false, false, false] rfl rfl (any_of HT_.out (by kernel_rfl)) (fun _ _ _ h => h) (Or.inl ⟨by rfl, ?_⟩) ?_ ?_
              rotate_left
              · intro w'
                go_simp
                first | done | with_reducible rfl
              rotate_left
              · simp only [Act.put, List.setIfInBounds_toArray, List.set_cons_zero, List.set_cons_succ, i64_w, i32_w]
                rfl
              refine pure_ (i := 19) (N := (some 157)) (v := ?_) (a' := ?_) #[true, true, true, true, true, true, true, true, true, true, true, true, true, true, true, true, true, true, true, true, false, false, false, false, false] rfl rfl (any_of HT_.out (by kernel_rfl)) (fun _ _ _ h => h) (Or.inl ⟨by rfl, ?_⟩) ?_ ?_
              rotate_left
              · intro w'
                go_simp
                first | done | with_reducible rfl
              rotate_left
              · simp only [Act.put, List.setIfInBounds_toArray, List.set_cons_zero, List.set_cons_succ, i64_w, i32_w]
                rfl
              refine pure_ (i := 20) (N := (some 158)) (v := ?_) (a' := ?_) #[true, true, true, true, true, true, true, true, true, true, true, true, true, true, true, true, true, true, true, true, true, false, false, false, false] rfl rfl (any_of HT_.out (by kernel_rfl)) (fun _ _ _ h => h) (Or.inl ⟨by rfl, ?_⟩) ?_ ?_
              rotate_left
              · intro w'
                go_simp
                first | done | with_reducible rfl
              rotate_left
              · simp only [Act.put, List.setIfInBounds_toArray, List.set_cons_zero, List.set_cons_succ, i64_w, i32_w]
                rfl
              refine take_ (i := 21) (N := (some 159)) (v := ?_) (a' := ?_) #[true, true, true, true, true, true, true, true, true, true, true, true, true, true, true, true, true, true, true, true, true, true, false, false, false] rfl rfl (take_ofW HT_.out HW_.out (by kernel_rfl)) (fun _ _ _ h => h) (Or.inl ⟨by rfl, ?_⟩) hHeld ?_ ?_
              rotate_left
              · rintro w' ⟨⟨s0, s1, s2, s3⟩, s4, s5, s6⟩
                go_simp
                first | done | with_reducible rfl
              rotate_left
              · simp only [Act.put, List.setIfInBounds_toArray, List.set_cons_zero, List.set_cons_succ, i64_w, i32_w]
                rfl
              refine pure_ (i := 22) (N := (some 160)) (v := ?_) (a' := ?_) #[true, true, true, true, true, true, true, true, true, true, true, true, true, true, true, true, true, true, true, true, true, true, true, false, false] rfl rfl (any_of HT_.out (by kernel_rfl)) (fun _ _ _ h => h) (Or.inl ⟨by rfl, ?_⟩) ?_ ?_
              rotate_left
              · intro w'
                go_simp
                first | done | with_reducible rfl
              rotate_left
              · simp only [Act.put, List.setIfInBounds_toArray, List.set_cons_zero, List.set_cons_succ, i64_w, i32_w]
                rfl
              refine pure_ (i := 23) (N := (some 161)) (v := ?_) (a' := ?_) #[true, true, true, true, true, true, true, true, true, true, true, true, true, true, true, true, true, true, true, true, true, true, true, true, false] rfl rfl (any_of HT_.out (by kernel_rfl)) (fun _ _ _ h => h) (Or.inl ⟨by rfl, ?_⟩) ?_ ?_
              rotate_left
              · intro w'
                go_simp
                first | done | with_reducible rfl
              rotate_left
              · simp only [Act.put, List.setIfInBounds_toArray, List.set_cons_zero, List.set_cons_succ, i64_w, i32_w]
                rfl
              refine pure_ (i := 24) (N := (some 162)) (v := ?_) (a' := ?_) #[true, true, true, true, true, true, true, true, true, true, true, true, true, true, true, true, true, true, true, true, true, true, true, true, true] rfl rfl (any_of HT_.out (by kernel_rfl)) (fun _ _ _ h => h) (Or.inl ⟨by rfl, ?_⟩) ?_ ?_
              rotate_left
              · intro w'
                go_simp
                first | done | with_reducible rfl
              rotate_left
              · simp only [Act.put, List.setIfInBounds_toArray, List.set_cons_zero, List.set_cons_succ, i64_w, i32_w]
                rfl
              refine done_ (done_of HT_.out (by kernel_rfl)) ?_
              go_wp2_with fail
              go_roundw
              case measure => first | exact HMS.out | (rw [hw4]; exact HMS.out)
              case rel => exact ⟨i + 1, HIL.out, by first | rw [hw4] | rfl, ⟨below_drew HBI7.out⟩⟩
            · have e4 : decide ((i : Int) < (l.length : Int)) = false := decide_eq_false (by omega)
              have e5 : decide (i < l.length) = false := decide_eq_false hil
              clear hil hi
              go_wp2_with fail
              refine (awake11 wr).mono ?_
              rintro ev w8 ⟨rfl, hb8⟩
              have HBF := Aside0.mk (below_step (below_step (below_step (below_step HB1.out HB.out) HBT6.out) HBI.out) hb8)
              clear hb8
              go_wp2_with fail
              go_ret
              exact ⟨rfl, HBF.out⟩
theorem doublesFinal (W : World) (A0 : Option Addr) (c0 : Nat) (l0 : List S28) (hc0 : l0.length ≤ c0) (hr0 : k28.C W A0 l0.length l0) (hm0 : l0.length ≤ maxLen) (hok0 : ∀ x ∈ l0, (Lit.int .i64 x.f0).wf = true ∧ (Lit.int .i64 x.f1).wf = true ∧ (x.f2.length ≤ maxLen ∧ ∀ y ∈ x.f2, (Lit.int .u8 y).wf = true)) (a1 : Int) (w1 : (Lit.int .i64 a1).wf = true) (up : Bool) :
    Calls Try.prog 3 #[.slice A0 l0.length c0, .int .i64 a1, .bool up] W fun e w' => e = .returned (.bool true) ∧ Below W.heap.size W w' := by
  by_cases h2 : l0.length ≤ 32
  · cases hlt : l0.all ltB with
    | true =>
      obtain ⟨m, hm1, hm2⟩ := smallW a1 ((l0.length : Int) + 1) (by omega) (by omega)
      have hby : ∀ x ∈ l0, Bytes x.f2 := fun x hx => Go.Proofs.Ytkncmbbkehnagaa.Bd.bytes_of (hok0 x hx).2.2.2
      cases up with
      | true => exact dbWalkT a1 hr0 hc0 h2 hlt hby m hm1 (by omega)
      | false => exact dbWalkF a1 hr0 hc0 h2 hlt hby m hm1 (by omega)
    | false => exact dbNot a1 up hr0 (.inr ⟨h2, hlt⟩)
  · exact dbNot a1 up hr0 (.inl (by omega))
end Go.Proofs.Ytkncmbbkehnagaa.Cm

