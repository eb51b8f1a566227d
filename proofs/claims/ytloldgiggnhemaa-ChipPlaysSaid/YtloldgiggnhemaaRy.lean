import Derived.Test.YtloldgiggnhemaaRx
set_option linter.unusedVariables false
set_option linter.unusedSimpArgs false
/-! SameBlocks. -/
namespace Go.Proofs.Ytloldgiggnhemaa.Cm
open Go.RowKit Go.Proofs.YtloldgiggnhemaaW.PrintWords Go.Proofs.YtloldgiggnhemaaW.PrintLast Go.Proofs.YtloldgiggnhemaaW.PrintMore Go.Proofs.Ytloldgiggnhemaa.Kp Go.Proofs.Ytloldgiggnhemaa.Cp
attribute [local go_sem] max2_int min2_int max_two min_two max_three min_three max_four min_four

def Four (W : World) (a : Addr) (B : Blk) (pv : Value) : Prop := W.cell? a = some (.bool B.bad) ∧ W.cell? ⟨a.block, a.off + 1, none⟩ = some (.int .i64 B.next) ∧ W.cell? ⟨a.block, a.off + 2, none⟩ = some (.int .i64 B.count) ∧ W.cell? ⟨a.block, a.off + 3, none⟩ = some pv
theorem Four.below {W W' : World} {a : Addr} {B : Blk} {pv : Value} (h : Four W a B pv) (hb : Below W.heap.size W W') : Four W' a B pv := ⟨pw_cell_below hb h.1, pw_cell_below hb h.2.1, pw_cell_below hb h.2.2.1, pw_cell_below hb h.2.2.2⟩
theorem eight {W W' : World} {a : Addr} {h i : Nat} {B : Blk} {p q : Value} (h1 : Four W a B p) (h2 : Four W ⟨h, i * 4, none⟩ B q) (hb : Below W.heap.size W W') :
    (W'.cell? a = some (.bool B.bad) ∧ W'.cell? ⟨a.block, a.off + 1, none⟩ = some (.int .i64 B.next) ∧ W'.cell? ⟨a.block, a.off + 2, none⟩ = some (.int .i64 B.count) ∧ W'.cell? ⟨a.block, a.off + 3, none⟩ = some p) ∧
    W'.cell? ⟨h, i * 4, none⟩ = some (.bool B.bad) ∧ W'.cell? ⟨h, i * 4 + 1, none⟩ = some (.int .i64 B.next) ∧ W'.cell? ⟨h, i * 4 + 2, none⟩ = some (.int .i64 B.count) ∧ W'.cell? ⟨h, i * 4 + 3, none⟩ = some q := ⟨h1.below hb, h2.below hb⟩
theorem PgR.of_enc {W : World} {A : Option Addr} {n c : Nat} {b : Nat} {l : List (List Int)} (h : Pgs W b (encS (A, n, c)) l) : PgR W (.slice A n c) l := h.reads
theorem blkR_mk {W : World} {pv : Value} {B : Blk} (h : PgR W pv B.pages) : BlkR W (.agg #[.bool B.bad, .int .i64 B.next, .int .i64 B.count, pv]) B := ⟨pv, rfl, h⟩
def reg_same2_6.T : Bool × List (List Nat × List Nat) := (true, [([], []), ([], []), ([0, 1], [0, 1]), ([2], [2]), ([], []), ([], []), ([4, 5], [4, 5]), ([6], [6]), ([3, 7], [3, 7]), ([8], [8])])
def reg_same2_6.B : List Nat := [0, 0, 3, 7, 0, 0, 48, 112, 255, 511]
theorem reg_same2_6.tab : rtab .any (opsOf Try.f35 6) = reg_same2_6.T := by kernel_rfl
theorem reg_same2_6.bits : waitsOk reg_same2_6.T.2 reg_same2_6.B = true := by kernel_rfl
set_option maxHeartbeats 4000000 in
set_option maxRecDepth 100000 in
theorem same2 (w : World) (A : Option Addr) (c b0 : Nat) (l : List FB) {base : Nat} {ok : Nat → Prop} {g h cap : Nat} {cs : Array Value} {pg : Nat → Nat} {s : Chp} (r : RRep w base ok g h cap cs pg s) (hC : Kd.C kF w A l.length l) (hF : FBs w b0 s.blocks l) :
    Calls Try.prog 35 #[.slice A l.length c, .slice (some ⟨h, 0, none⟩) s.blocks.length cap] w fun e w' => e = .returned (.bool true) ∧ Below w.heap.size w w' := by
  have HC := Aside0.mk hC
  have HF := Aside0.mk hF
  have HR := Aside0.mk r
  obtain ⟨n, hn⟩ : ∃ n, s.blocks.length = n := ⟨_, rfl⟩
  have HN : Aside0 (s.blocks.length = n ∧ n ≤ 64 ∧ l.length = n) := ⟨⟨hn, by have := r.inv.n2; omega, by rw [hF.1]; exact hn⟩⟩
  rw [HN.out.2.2, hn]
  clear hC hF r hn
  go_enter Try.func35, Try.ntmps35
  go_wp2_with fail
  go_loopw [13] (fun v13 wr => ∃ i : Nat, i ≤ n ∧ v13 = .int .i64 (i : Int) ∧ Aside0 (Below w.heap.size w wr)) (fun v13 _ => n - (intOf v13).toNat)
  case atStart => exact ⟨0, Nat.zero_le _, rfl, ⟨Below.refl _ _⟩⟩
  case round =>
    obtain ⟨i, hi, rfl, HB⟩ := hrel
    by_cases hlt : i < n
    · have hlt2 : (i : Int) < (n : Int) := by omega
      have HLT := Aside0.mk hlt
      have hw3 : wrap64 ((i : Int) + 1) = ((i + 1 : Nat) : Int) := by rw [show (i : Int) + 1 = ((i + 1 : Nat) : Int) by omega]; exact rwrap (by omega) (by have := HN.out; omega)
      have HW3 := Aside0.mk hw3
      have his : i < s.blocks.length := by rw [HN.out.1]; exact hlt
      obtain ⟨B, hB⟩ : ∃ B, s.blocks[i]? = some B := ⟨_, List.getElem?_eq_getElem his⟩
      obtain ⟨⟨Ap, np, cp⟩, he, hp⟩ := HF.out.2 i B hB
      obtain ⟨ad, rfl, f0, f1, f2, f3⟩ := fbAt HC.out i (by rw [HN.out.2.2]; exact hlt)
      have e : l.getD i zF = ⟨B.bad, B.next, B.count, (Ap, np, cp)⟩ := by rw [List.getD_eq_getElem?_getD, he]; rfl
      rw [e] at f0 f1 f2 f3
      have H1 : Aside0 (Four wr (ad.add (i * 4)) B (.slice Ap np cp)) := ⟨(show Four w (ad.add (i * 4)) B (.slice Ap np cp) from ⟨f0, f1, f2, f3⟩).below HB.out⟩
      have H2 : Aside0 (Four wr ⟨h, i * 4, none⟩ B (.slice (some ⟨pg i, 0, none⟩) B.pages.length B.pages.length)) := ⟨(show Four w ⟨h, i * 4, none⟩ B _ from rrowCells HR.out hB).below HB.out⟩
      have HP1 := Aside0.mk ((PgR.of_enc hp).below HB.out)
      have HP2 := Aside0.mk ((RRep.pgR HR.out hB).below HB.out)
      have HPL : Aside0 (B.pages.length ≤ 100000) := ⟨by have := HR.out.inv.len B (List.mem_of_getElem? hB); have := HR.out.inv.p2; omega⟩
      clear hi hlt hw3 his hB he hp f0 f1 f2 f3 e
      obtain ⟨pl, hpl⟩ : ∃ pl, B.pages.length = pl := ⟨_, rfl⟩
      rw [hpl] at H2 HP2
      clear hpl
      go_upto_region 6 with fail
      refine start_ (n := 10) (S := fun w' => (w'.cell? (ad.add (i * 4)) = some (.bool B.bad) ∧ w'.cell? ⟨(ad.add (i * 4)).block, (ad.add (i * 4)).off + 1, none⟩ = some (.int .i64 B.next) ∧ w'.cell? ⟨(ad.add (i * 4)).block, (ad.add (i * 4)).off + 2, none⟩ = some (.int .i64 B.count) ∧ w'.cell? ⟨(ad.add (i * 4)).block, (ad.add (i * 4)).off + 3, none⟩ = some (.slice Ap np cp)) ∧ w'.cell? ⟨h, i * 4, none⟩ = some (.bool B.bad) ∧ w'.cell? ⟨h, i * 4 + 1, none⟩ = some (.int .i64 B.next) ∧ w'.cell? ⟨h, i * 4 + 2, none⟩ = some (.int .i64 B.count) ∧ w'.cell? ⟨h, i * 4 + 3, none⟩ = some (.slice (some ⟨pg i, 0, none⟩) pl pl)) (ds := []) #[false, false, false, false, false, false, false, false, false, false] (by kernel_rfl) rfl rfl (eight H1.out H2.out (below_drew (Below.refl _ _))) (fun hHeld => ?_)
      refine with_tabW reg_same2_6.tab reg_same2_6.bits (fun HT_ HW_ => ?_)
      refine pure_ (i := 0) (N := (some 16)) (v := ?_) (a' := ?_) #[true, false, false, false, false, false, false, false, false, false] rfl rfl (any_of HT_.out (by kernel_rfl)) (fun _ _ _ h => h) (Or.inl ⟨by rfl, ?_⟩) ?_ ?_
      rotate_left
      · intro w'
        go_simp
        first | done | with_reducible rfl
      rotate_left
      · simp only [Act.put, List.setIfInBounds_toArray, List.set_cons_zero, List.set_cons_succ, i64_w, i32_w]
        rfl
      refine pure_ (i := 1) (N := (some 17)) (v := ?_) (a' := ?_) #[true, true, false, false, false, false, false, false, false, false] rfl rfl (any_of HT_.out (by kernel_rfl)) (fun _ _ _ h => h) (Or.inl ⟨by rfl, ?_⟩) ?_ ?_
      rotate_left
      · intro w'
        go_simp
        first | done | with_reducible rfl
      rotate_left
      · simp only [Act.put, List.setIfInBounds_toArray, List.set_cons_zero, List.set_cons_succ, i64_w, i32_w]
        rfl
      refine pure_ (i := 2) (N := (some 18)) (v := ?_) (a' := ?_) #[true, true, true, false, false, false, false, false, false, false] rfl rfl (any_of HT_.out (by kernel_rfl)) (fun _ _ _ h => h) (Or.inl ⟨by rfl, ?_⟩) ?_ ?_
      rotate_left
      · intro w'
        go_simp
        first | done | with_reducible rfl
      rotate_left
      · simp only [Act.put, List.setIfInBounds_toArray, List.set_cons_zero, List.set_cons_succ, i64_w, i32_w]
        rfl
      refine take_ (i := 3) (N := (some 19)) (v := ?_) (a' := ?_) #[true, true, true, true, false, false, false, false, false, false] rfl rfl (take_ofW HT_.out HW_.out (by kernel_rfl)) (fun _ _ _ h => h) (Or.inl ⟨by rfl, ?_⟩) hHeld ?_ ?_
      rotate_left
      · rintro w' ⟨⟨s0, s1, s2, s3⟩, s4, s5, s6, s7⟩
        go_simp
        first | done | with_reducible rfl
      rotate_left
      · simp only [Act.put, List.setIfInBounds_toArray, List.set_cons_zero, List.set_cons_succ, i64_w, i32_w]
        rfl
      refine pure_ (i := 4) (N := (some 20)) (v := ?_) (a' := ?_) #[true, true, true, true, true, false, false, false, false, false] rfl rfl (any_of HT_.out (by kernel_rfl)) (fun _ _ _ h => h) (Or.inl ⟨by rfl, ?_⟩) ?_ ?_
      rotate_left
      · intro w'
        go_simp
        first | done | with_reducible rfl
      rotate_left
      · simp only [Act.put, List.setIfInBounds_toArray, List.set_cons_zero, List.set_cons_succ, i64_w, i32_w]
        rfl
      refine pure_ (i := 5) (N := (some 21)) (v := ?_) (a' := ?_) #[true, true, true, true, true, true, false, false, false, false] rfl rfl (any_of HT_.out (by kernel_rfl)) (fun _ _ _ h => h) (Or.inl ⟨by rfl, ?_⟩) ?_ ?_
      rotate_left
      · intro w'
        go_simp
        first | done | with_reducible rfl
      rotate_left
      · simp only [Act.put, List.setIfInBounds_toArray, List.set_cons_zero, List.set_cons_succ, i64_w, i32_w]
        rfl
      refine pure_ (i := 6) (N := (some 22)) (v := ?_) (a' := ?_) #[true, true, true, true, true, true, true, false, false, false] rfl rfl (any_of HT_.out (by kernel_rfl)) (fun _ _ _ h => h) (Or.inl ⟨by rfl, ?_⟩) ?_ ?_
      rotate_left
      · intro w'
        go_simp
        first | done | with_reducible rfl
      rotate_left
      · simp only [Act.put, List.setIfInBounds_toArray, List.set_cons_zero, List.set_cons_succ, i64_w, i32_w]
        rfl
      refine take_ (i := 7) (N := (some 23)) (v := ?_) (a' := ?_) #[true, true, true, true, true, true, true, true, false, false] rfl rfl (take_ofW HT_.out HW_.out (by kernel_rfl)) (fun _ _ _ h => h) (Or.inl ⟨by rfl, ?_⟩) hHeld ?_ ?_
      rotate_left
      · rintro w' ⟨⟨s0, s1, s2, s3⟩, s4, s5, s6, s7⟩
        go_simp
        first | done | with_reducible rfl
      rotate_left
      · simp only [Act.put, List.setIfInBounds_toArray, List.set_cons_zero, List.set_cons_succ, i64_w, i32_w]
        rfl
      refine one_ (i := 8) (N := (some 24)) #[true, true, true, true, true, true, true, true, true, false] rfl rfl (one_of HT_.out (by kernel_rfl)) (by decide) (fun K hK => ?_)
      refine goes_ Try.func33 (by kernel_rfl) rfl #[.agg #[.bool B.bad, .int .i64 B.next, .int .i64 B.count, .slice Ap np cp], .agg #[.bool B.bad, .int .i64 B.next, .int .i64 B.count, .slice (some ⟨pg i, 0, none⟩) pl pl]] (by rfl) rfl rfl (by (try simp only [List.map_toArray, List.map_cons, List.map_nil]); first | done | rfl) ?_
      with_reducible refine (same1 wr.drew _ _ B (blkR_mk (HP1.out.below (below_drew (Below.refl _ _)))) (blkR_mk (HP2.out.below (below_drew (Below.refl _ _)))) HPL.out).mono ?_
      rintro ev_ u2 ⟨rfl, hb2⟩
      refine ⟨_, rfl, ?_⟩
      have hb3 := below_step (below_drew (Below.refl _ wr)) hb2
      have HBT := Aside0.mk hb3
      have HB2 := Aside0.mk (below_step HB.out hb3)
      clear hb2 hb3
      refine hK.out _ _ (eight H1.out H2.out HBT.out) (fun hHeld => ?_)
      clear hK K
      refine norm_ (a' := ?_) ?_ ?_
      rotate_left
      · show Act.put _ (some 24) _ = _
        simp only [Act.put, List.setIfInBounds_toArray, List.set_cons_zero, List.set_cons_succ, i64_w, i32_w]
        rfl
      refine pure_ (i := 9) (N := (some 25)) (v := ?_) (a' := ?_) #[true, true, true, true, true, true, true, true, true, true] rfl rfl (any_of HT_.out (by kernel_rfl)) (fun _ _ _ h => h) (Or.inl ⟨by rfl, ?_⟩) ?_ ?_
      rotate_left
      · intro w'
        go_simp
        first | done | with_reducible rfl
      rotate_left
      · simp only [Act.put, List.setIfInBounds_toArray, List.set_cons_zero, List.set_cons_succ, i64_w, i32_w]
        rfl
      refine done_ (done_of HT_.out (by kernel_rfl)) ?_
      have hw3 := HW3.out
      clear hHeld HT_ HW_
      go_wp2_with fail
      go_roundw
      case measure =>
        have hm : n - ((i + 1 : Nat) : Int).toNat < n - ((i : Nat) : Int).toNat := by
          rw [Int.toNat_natCast, Int.toNat_natCast]
          exact Nat.sub_lt_sub_left HLT.out (Nat.lt_succ_self i)
        first | exact hm | (rw [hw3]; exact hm)
      case rel => exact ⟨i + 1, HLT.out, by first | rw [hw3] | rfl, HB2⟩
    · have he : i = n := by omega
      subst he
      have hnn : ¬ (((i : Nat) : Int) < (i : Int)) := by omega
      clear hlt hi
      go_wp2_with fail
      go_ret
      exact ⟨rfl, HB.out⟩
end Go.Proofs.Ytloldgiggnhemaa.Cm
