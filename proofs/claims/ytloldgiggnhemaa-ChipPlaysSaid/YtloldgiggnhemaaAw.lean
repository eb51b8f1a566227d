import Derived.Test.YtloldgiggnhemaaHd
set_option linter.unusedVariables false
set_option linter.unusedSimpArgs false
/-! The chip's awake. -/
namespace Go.Proofs.Ytloldgiggnhemaa.Cm
open Go.RowKit Go.Proofs.YtloldgiggnhemaaW.PrintWords Go.Proofs.YtloldgiggnhemaaW.PrintLast Go.Proofs.YtloldgiggnhemaaW.PrintMore Go.Proofs.Ytloldgiggnhemaa.Kp Go.Proofs.Ytloldgiggnhemaa.Cp
attribute [local go_sem] max2_int min2_int max_two min_two max_three min_three max_four min_four

def aw0 : Chp := newS 3 2 [2]
def xy : List Int := [120, 121]
def aw1 : Chp := (progS aw0 1 0 xy).1
def aw2 : Chp := (progS aw1 1 0 xy).1
def aw3 : Chp := readS aw2 1 0
def aw4 : Chp := (eraseS aw3 1).1
theorem aw_a : (progS aw0 1 0 xy).2 = 0 := by kernel_rfl
theorem aw_b : (progS aw1 1 0 xy).2 = 4 := by kernel_rfl
theorem aw_e : readE aw2 1 0 = 0 := by kernel_rfl
theorem aw_x : readX aw2 1 0 = xy := by kernel_rfl
theorem aw_f : (eraseS aw3 1).2 = 0 := by kernel_rfl
theorem aw_c : (blockB aw4 1).count = 1 := by kernel_rfl
theorem aw_d : (blockB aw4 2).bad = true := by kernel_rfl
theorem aw_g : (eraseS aw4 2).2 = 3 := by kernel_rfl
theorem aw_1 : (blockB aw4 1).pages = [[], []] := by kernel_rfl
theorem aw_2 : (blockB aw4 2).pages = [[], []] := by kernel_rfl
theorem Nx.both {W W1 : World} {base : Nat} {S S1 : Nat → Prop} (h : Nx base W S W1 S1) {k : Nat} {o : Obj} (hk : W.heap[k]? = some o) (hn : ¬ S k) : W1.heap[k]? = some o ∧ ¬ S1 k := ⟨h.blk hk hn, h.not (blk_lt hk) hn⟩
theorem Hd.new_not {W : World} {base : Nat} {S : Nat → Prop} {g : Nat} {s : Chp} (h : Hd W base S g s) {b : Nat} (hb : W.heap.size = b) : ¬ S b := fun hs => by
  have := h.lt b hs
  omega
theorem bne_ {a b : Nat} (h : a ≠ b) : a ≠ b ∧ b ≠ a := ⟨h, h.symm⟩
theorem blk_ltE {W : World} {k b : Nat} {o : Obj} (h : W.heap[k]? = some o) (hb : W.heap.size = b) : k < b := hb ▸ blk_lt h
theorem Hd.keep {W W1 : World} {base : Nat} {S : Nat → Prop} {g : Nat} {s : Chp} (h : Hd W base S g s) (hs : W1.heap.size = W.heap.size) (hk : ∀ k, S k → W1.heap[k]? = W.heap[k]?) : Hd W1 base S g s :=
  ⟨h.chip.keep (by omega) (fun k hS _ => hk k hS), fun k hS => by rw [hs]; exact h.lt k hS⟩
theorem conv_mark {W : World} {b : Nat} {C : Array Value} (h : W.heap[b]? = some (.cells C 5 (0, 0))) (n c : Nat) :
    ∃ W', (convert 22 22 (.slice (some ⟨b, 0, none⟩) n c)).run Try.prog W = .ok (.slice (some ⟨b, 0, none⟩) n c) W' ∧ W'.heap[b]? = some (.cells C 5 (C.size, C.size + 1)) ∧ W'.heap.size = W.heap.size ∧ (∀ k, k ≠ b → W'.heap[k]? = W.heap[k]?) ∧ Below b W W' := by
  have hsh : W.shape? b = some (5, C.size) := by
    unfold World.shape?
    rw [h]
  refine ⟨W.freeze ⟨b, C.size, none⟩ 1, ?_, ?_, ?_, fun k hk => ?_, ?_⟩
  · simp [convert, run_underlying Try.underlying22, run_underlying Try.underlying5, markStringish, hsh]
  · unfold World.freeze
    rw [if_neg (by decide)]
    simp [Array.getElem?_modify, h]
  · unfold World.freeze
    rw [if_neg (by decide)]
    simp
  · unfold World.freeze
    rw [if_neg (by decide)]
    simp [Array.getElem?_modify, Ne.symm hk]
  · unfold World.freeze
    rw [if_neg (by decide)]
    exact ⟨rfl, rfl, rfl, by simp, fun k hk => by simp [Array.getElem?_modify, Nat.ne_of_gt hk]⟩
theorem progXY {W : World} {base : Nat} {S : Nat → Prop} {g : Nat} {s : Chp} (h : Hd W base S g s) {b : Nat} {fr : Nat × Nat} (hm : W.heap[b]? = some (.cells #[.int .u8 120, .int .u8 121] 5 fr)) (hn : ¬ S b) :
    Calls Try.prog 14 #[.pointer (some ⟨g, 0, none⟩), .agg #[.int .i64 1, .int .i64 0], .slice (some ⟨b, 0, none⟩) 2 2] W fun e W' => e = .returned (.int .i64 (progS s 1 0 xy).2) ∧ Ch W base S g (progS s 1 0 xy).1 W' :=
  programH h 1 0 (some ⟨b, 0, none⟩) 2 xy (C_lit (xs := xy) hm rfl (by decide)) (by decide) (fun ad hk => by cases hk; exact ⟨blk_lt hm, hn⟩)
theorem str_xy : strOfNums xy = { data := #[120, 121] } := by decide +kernel
theorem conv22 {W : World} {A : Option Addr} {n c : Nat} {xs : List Int} {s : ByteArray} (h : Kd.C (Kd.int .u8) W A n xs) (hs : strOfNums xs = s) : (convert 22 9 (.slice A n c)).run Try.prog W = .ok (.string s) W := by
  rw [← hs]
  exact Kd.C_string Try.underlying22 Try.underlying5 Try.underlying9 h
theorem field0 (a : Bool) (b c : Int) (A : Option Addr) (n m : Nat) (W : World) : (Instr.field 36 (.agg #[.bool a, .int .i64 b, .int .i64 c, .slice A n m]) 0).run Try.prog W = .ok (.bool a) W := by rfl
theorem field1 (a : Bool) (b c : Int) (A : Option Addr) (n m : Nat) (W : World) : (Instr.field 36 (.agg #[.bool a, .int .i64 b, .int .i64 c, .slice A n m]) 1).run Try.prog W = .ok (.int .i64 b) W := by rfl
theorem field2 (a : Bool) (b c : Int) (A : Option Addr) (n m : Nat) (W : World) : (Instr.field 36 (.agg #[.bool a, .int .i64 b, .int .i64 c, .slice A n m]) 2).run Try.prog W = .ok (.int .i64 c) W := by rfl
theorem field3 (a : Bool) (b c : Int) (A : Option Addr) (n m : Nat) (W : World) : (Instr.field 36 (.agg #[.bool a, .int .i64 b, .int .i64 c, .slice A n m]) 3).run Try.prog W = .ok (.slice A n m) W := by rfl
def reg_awake4_3.T : Bool × List (List Nat × List Nat) := (true, [([], []), ([], []), ([], []), ([2], [2]), ([0, 1, 3], [0, 1, 3]), ([], []), ([], []), ([], []), ([7], [7]), ([5, 6, 8, 4], [5, 6, 8]), ([4, 9, 0, 1, 2, 3, 4], [4]), ([9, 10, 0, 1, 2, 3, 4, 5, 6, 7, 8, 9, 10], [9])])
def reg_awake4_3.B : List Nat := [0, 0, 0, 4, 15, 0, 0, 0, 128, 511, 1023, 2047]
theorem reg_awake4_3.tab : rtab .any (opsOf Try.f11 3) = reg_awake4_3.T := by kernel_rfl
theorem reg_awake4_3.bits : waitsOk reg_awake4_3.T.2 reg_awake4_3.B = true := by kernel_rfl
theorem ints_lit {W : World} {b t : Nat} {cs : Array Value} {xs : List Int} (h : W.heap[b]? = some (.cells cs t (0, 0))) (hc : cs.toList = xs.map (Value.int .i64)) (hl : xs.length ≤ 1000000) : Kd.C (Kd.int .i64) W (some ⟨b, 0, none⟩) xs.length xs := by
  refine Kd.C_of_reads (d := (0 : Int)) ⟨rfl, by omega, fun _ => ⟨_, rfl, fun j hj => ?_⟩⟩
  rw [add_plain, blk_cell h, ← Array.getElem?_toList, hc, List.getElem?_map, List.getElem?_eq_getElem hj, List.getD_eq_getElem?_getD, List.getElem?_eq_getElem hj]
  rfl
set_option maxHeartbeats 4000000 in
set_option maxRecDepth 100000 in
theorem awake4 (w : World) : Calls Try.prog 11 #[] w fun e w' => e = .returned (.bool true) ∧ Below w.heap.size w w' := by
  go_enter Try.func11, Try.ntmps11
  go_wp2_with fail
  have hcc := newH (w.alloc (.cells #[.int .i64 2] 3)) 3 2 (some ⟨w.heap.size, 0, none⟩) 1 [2] (ints_lit (blk_new w _) rfl (by decide)) (by decide) (by decide) (by decide) (by decide) (by decide) (by decide)
  refine hcc.mono ?_
  clear hcc
  rintro ev w1 ⟨g, rfl, hh, hbn⟩
  have HBL1 := Aside0.mk (below_step (below_alloc (Below.refl _ w) _) hbn)
  obtain ⟨base, hbase⟩ : ∃ b, (w.alloc (.cells #[.int .i64 2] 3)).heap.size = b := ⟨_, rfl⟩
  obtain ⟨S, hS⟩ : ∃ S : Nat → Prop, (fun k => (w.alloc (.cells #[.int .i64 2] 3)).heap.size ≤ k ∧ k < w1.heap.size) = S := ⟨_, rfl⟩
  rw [hS, hbase] at hh
  have HBS : Aside0 (w.heap.size ≤ base) := ⟨by rw [← hbase]; simp⟩
  have HH1 : Aside0 (Hd w1 base S g aw0) := ⟨hh⟩
  clear hS hbase hh hbn
  go_upto_region 3 with fail
  obtain ⟨w2, hw2⟩ : ∃ w2, w1.alloc (.cells #[.int .i64 1, .int .i64 0] 29) = w2 := ⟨_, rfl⟩
  obtain ⟨bs, hbs⟩ : ∃ b, w1.heap.size = b := ⟨_, rfl⟩
  have hb2 : Below w1.heap.size w1 w2 := by rw [← hw2]; exact below_alloc (Below.refl _ _) _
  have HBX2 : Aside0 (w2.heap[bs]? = some (.cells #[.int .i64 1, .int .i64 0] 29 (0, 0))) := ⟨by rw [← hw2, ← hbs]; exact blk_new w1 _⟩
  have NBX : Aside0 (¬ S bs) := ⟨fun h => by have := HH1.out.lt _ h; omega⟩
  have HH2 := Aside0.mk (HH1.out.below hb2)
  have HBL2 := Aside0.mk (below_step HBL1.out hb2)
  rw [hw2, hbs]
  clear hw2 hbs hb2 HH1
  have HH := Aside0.mk (HH2.out.below (below_drew (Below.refl _ _)))
  have HBX := Aside0.mk (blk_below HBX2.out (below_drew (Below.refl _ _)))
  have HBL := Aside0.mk (below_step HBL2.out (below_drew (Below.refl _ _)))
  clear HH2 HBX2 HBL1 HBL2
  refine start_ (n := 12) (S := fun w' => w'.cell? ⟨bs, 0, none⟩ = some (.int .i64 1) ∧ w'.cell? ⟨bs, 1, none⟩ = some (.int .i64 0)) (ds := []) #[false, false, false, false, false, false, false, false, false, false, false, false] (by kernel_rfl) rfl rfl (two HBX.out) (fun hHeld => ?_)
  refine with_tabW reg_awake4_3.tab reg_awake4_3.bits (fun HT_ HW_ => ?_)
  obtain ⟨z0, hz0⟩ : ∃ z, w2.drew = z := ⟨_, rfl⟩
  rw [hz0] at hHeld HH HBX HBL ⊢
  clear hz0
  refine pure_ (i := 0) (N := (some 11)) (v := ?_) (a' := ?_) #[true, false, false, false, false, false, false, false, false, false, false, false] rfl rfl (any_of HT_.out (by kernel_rfl)) (fun _ _ _ h => h) (Or.inl ⟨by rfl, ?_⟩) ?_ ?_
  rotate_left
  · intro w'
    go_simp
    first | done | with_reducible rfl
  rotate_left
  · simp only [Act.put, List.setIfInBounds_toArray, List.set_cons_zero, List.set_cons_succ, i64_w, i32_w]
    rfl
  refine take_ (i := 1) (N := (some 12)) (v := ?_) (a' := ?_) #[true, true, false, false, false, false, false, false, false, false, false, false] rfl rfl (take_ofW HT_.out HW_.out (by kernel_rfl)) (fun _ _ _ h => h) (Or.inl ⟨by rfl, ?_⟩) hHeld ?_ ?_
  rotate_left
  · rintro w' ⟨s0, s1⟩
    go_simp
    first | done | with_reducible rfl
  rotate_left
  · simp only [Act.put, List.setIfInBounds_toArray, List.set_cons_zero, List.set_cons_succ, i64_w, i32_w]
    rfl
  refine pure_ (i := 5) (N := (some 16)) (v := ?_) (a' := ?_) #[true, true, false, false, false, true, false, false, false, false, false, false] rfl rfl (any_of HT_.out (by kernel_rfl)) (fun _ _ _ h => h) (Or.inl ⟨by rfl, ?_⟩) ?_ ?_
  rotate_left
  · intro w'
    go_simp
    first | done | with_reducible rfl
  rotate_left
  · simp only [Act.put, List.setIfInBounds_toArray, List.set_cons_zero, List.set_cons_succ, i64_w, i32_w]
    rfl
  refine take_ (i := 6) (N := (some 17)) (v := ?_) (a' := ?_) #[true, true, false, false, false, true, true, false, false, false, false, false] rfl rfl (take_ofW HT_.out HW_.out (by kernel_rfl)) (fun _ _ _ h => h) (Or.inl ⟨by rfl, ?_⟩) hHeld ?_ ?_
  rotate_left
  · rintro w' ⟨s0, s1⟩
    go_simp
    first | done | with_reducible rfl
  rotate_left
  · simp only [Act.put, List.setIfInBounds_toArray, List.set_cons_zero, List.set_cons_succ, i64_w, i32_w]
    rfl
  refine join_ (σ := Nat × Nat) 3 #[true, true, true, true, true, true, true, true, true, false, false, false] (fun s_ => [(13, (.slice (some ⟨s_.1, 0, none⟩) 2 2 : Value)), (14, (.slice (some ⟨s_.1, 0, none⟩) 2 2 : Value)), (15, (.int .i64 0 : Value)), (18, (.slice (some ⟨s_.2, 0, none⟩) 2 2 : Value)), (19, (.slice (some ⟨s_.2, 0, none⟩) 2 2 : Value))]) (fun s_ w_ => ∃ S : Nat → Prop, Hd w_ base S g aw1 ∧ w_.heap[bs]? = some (.cells #[.int .i64 1, .int .i64 0] 29 (0, 0)) ∧ ¬ S bs ∧ w_.heap[s_.2]? = some (.cells #[.int .u8 120, .int .u8 121] 5 (2, 3)) ∧ ¬ S s_.2 ∧ Below w.heap.size w w_) ?_ ?_
  rotate_left
  · intro hJ
    revert hJ
    intro hJ
    refine two_ (i := 2) (j := 7) (Ni := (some 13)) (Nj := (some 18)) #[true, true, true, false, false, true, true, false, false, false, false, false] #[true, true, false, false, false, true, true, true, false, false, false, false] rfl rfl rfl rfl (two_of HT_.out (by kernel_rfl)) (by decide) (by decide) (fun K hK => ?_) (fun K hK => ?_)
    · go_simp
      obtain ⟨z1, hY_⟩ : ∃ Y, z0.alloc (.cells #[.int .u8 120, .int .u8 121] 5) = Y := ⟨_, rfl⟩
      obtain ⟨bA, hbA⟩ : ∃ b, z0.heap.size = b := ⟨_, rfl⟩
      have hbl_ : Below z0.heap.size z0 z1 := by rw [← hY_]; exact below_alloc (Below.refl _ _) _
      have HLA : Aside0 (z1.heap[bA]? = some (.cells #[.int .u8 120, .int .u8 121] 5 (0, 0))) := ⟨by rw [← hY_, ← hbA]; exact blk_new z0 _⟩
      have NLA := Aside0.mk (HH.out.new_not hbA)
      rw [hY_, hbA]
      have hbE_ := hbA
      clear hY_ hbA
      have HLEA := Aside0.mk (Nat.le_trans HBL.out.size (Nat.le_of_eq hbE_))
      replace HH := Aside0.mk (HH.out.below hbl_)
      replace HBL := Aside0.mk (below_step HBL.out hbl_)
      replace HBX := Aside0.mk (blk_below HBX.out hbl_)
      try have HNE := Aside0.mk (Nat.ne_of_lt (blk_ltE HLB.out hbE_))
      try have HNE := Aside0.mk (Nat.ne_of_lt (blk_ltE HMB.out hbE_))
      try replace HLB := Aside0.mk (blk_below HLB.out hbl_)
      try replace HMB := Aside0.mk (blk_below HMB.out hbl_)
      clear hbl_ hbE_
      refine hK.out _ _ (two HBX.out) (fun hHeld => ?_)
      clear hK K
      refine two_ (i := 3) (j := 7) (Ni := (some 14)) (Nj := (some 18)) #[true, true, true, true, false, true, true, false, false, false, false, false] #[true, true, true, false, false, true, true, true, false, false, false, false] rfl rfl rfl rfl (two_of HT_.out (by kernel_rfl)) (by decide) (by decide) (fun K hK => ?_) (fun K hK => ?_)
      · obtain ⟨z2, hcv_, hx_, hsz_, hot_, hbl_⟩ := conv_mark HLA.out 2 2
        go_simp
        clear hcv_
        replace HBL := Aside0.mk (HBL.out.trans (hbl_.mono HLEA.out))
        have HMA := Aside0.mk hx_
        have NA_ := Aside0.mk NLA.out
        replace HH := Aside0.mk (HH.out.keep hsz_ (fun k hk => hot_ k (fun e => NLA.out (e ▸ hk))))
        replace HBX := Aside0.mk ((hot_ _ (type_ne HBX.out HLA.out (by decide))).trans HBX.out)
        try replace HLB := Aside0.mk ((hot_ _ (by first | exact HNE.out | exact HNE.out.symm)).trans HLB.out)
        try replace HMB := Aside0.mk ((hot_ _ (by first | exact HNE.out | exact HNE.out.symm)).trans HMB.out)
        clear NA_ HLA hx_ hsz_ hot_ hbl_
        refine hK.out _ _ (two HBX.out) (fun hHeld => ?_)
        clear hK K
        refine two_ (i := 4) (j := 7) (Ni := (some 15)) (Nj := (some 18)) #[true, true, true, true, true, true, true, false, false, false, false, false] #[true, true, true, true, false, true, true, true, false, false, false, false] rfl rfl rfl rfl (two_of HT_.out (by kernel_rfl)) (by decide) (by decide) (fun K hK => ?_) (fun K hK => ?_)
        · refine goes_ Try.func14 (by kernel_rfl) rfl #[.pointer (some ⟨g, 0, none⟩), .agg #[.int .i64 1, .int .i64 0], .slice (some ⟨bA, 0, none⟩) 2 2] (by rfl) rfl rfl (by (try simp only [List.map_toArray, List.map_cons, List.map_nil]); first | done | rfl) ?_
          with_reducible refine (progXY HH.out HMA.out NLA.out).mono ?_
          rintro ev_ z3 ⟨rfl, S, hh_, hn_⟩
          refine ⟨_, rfl, ?_⟩
          rw [aw_a]
          replace HBL := Aside0.mk (HBL.out.trans (hn_.bel.mono HBS.out))
          obtain ⟨x1_, x2_⟩ := hn_.both HBX.out NBX.out
          clear HBX NBX
          have HBX := Aside0.mk x1_
          have NBX := Aside0.mk x2_
          clear x1_ x2_
          try (obtain ⟨x1_, x2_⟩ := hn_.both HLA.out NLA.out; clear HLA NLA; have HLA := Aside0.mk x1_; have NLA := Aside0.mk x2_; clear x1_ x2_)
          try (obtain ⟨x1_, x2_⟩ := hn_.both HLB.out NLB.out; clear HLB NLB; have HLB := Aside0.mk x1_; have NLB := Aside0.mk x2_; clear x1_ x2_)
          try (obtain ⟨x1_, x2_⟩ := hn_.both HMA.out NLA.out; clear HMA NLA; have HMA := Aside0.mk x1_; have NLA := Aside0.mk x2_; clear x1_ x2_)
          try (obtain ⟨x1_, x2_⟩ := hn_.both HMB.out NLB.out; clear HMB NLB; have HMB := Aside0.mk x1_; have NLB := Aside0.mk x2_; clear x1_ x2_)
          clear HH hn_
          have HH := Aside0.mk hh_
          clear hh_
          refine hK.out _ _ (two HBX.out) (fun hHeld => ?_)
          clear hK K
          refine norm_ (a' := ?_) ?_ ?_
          rotate_left
          · show Act.put _ (some 15) _ = _
            simp only [Act.put, List.setIfInBounds_toArray, List.set_cons_zero, List.set_cons_succ, i64_w, i32_w]
            rfl
          refine one_ (i := 7) (N := (some 18)) #[true, true, true, true, true, true, true, true, false, false, false, false] rfl rfl (one_of HT_.out (by kernel_rfl)) (by decide) (fun K hK => ?_)
          go_simp
          obtain ⟨z4, hY_⟩ : ∃ Y, z3.alloc (.cells #[.int .u8 120, .int .u8 121] 5) = Y := ⟨_, rfl⟩
          obtain ⟨bB, hbB⟩ : ∃ b, z3.heap.size = b := ⟨_, rfl⟩
          have hbl_ : Below z3.heap.size z3 z4 := by rw [← hY_]; exact below_alloc (Below.refl _ _) _
          have HLB : Aside0 (z4.heap[bB]? = some (.cells #[.int .u8 120, .int .u8 121] 5 (0, 0))) := ⟨by rw [← hY_, ← hbB]; exact blk_new z3 _⟩
          have NLB := Aside0.mk (HH.out.new_not hbB)
          rw [hY_, hbB]
          have hbE_ := hbB
          clear hY_ hbB
          have HLEB := Aside0.mk (Nat.le_trans HBL.out.size (Nat.le_of_eq hbE_))
          replace HH := Aside0.mk (HH.out.below hbl_)
          replace HBL := Aside0.mk (below_step HBL.out hbl_)
          replace HBX := Aside0.mk (blk_below HBX.out hbl_)
          try have HNE := Aside0.mk (Nat.ne_of_lt (blk_ltE HLA.out hbE_))
          try have HNE := Aside0.mk (Nat.ne_of_lt (blk_ltE HMA.out hbE_))
          try replace HLA := Aside0.mk (blk_below HLA.out hbl_)
          try replace HMA := Aside0.mk (blk_below HMA.out hbl_)
          clear hbl_ hbE_
          refine hK.out _ _ (two HBX.out) (fun hHeld => ?_)
          clear hK K
          refine one_ (i := 8) (N := (some 19)) #[true, true, true, true, true, true, true, true, true, false, false, false] rfl rfl (one_of HT_.out (by kernel_rfl)) (by decide) (fun K hK => ?_)
          obtain ⟨z5, hcv_, hx_, hsz_, hot_, hbl_⟩ := conv_mark HLB.out 2 2
          go_simp
          clear hcv_
          replace HBL := Aside0.mk (HBL.out.trans (hbl_.mono HLEB.out))
          have HMB := Aside0.mk hx_
          have NB_ := Aside0.mk NLB.out
          replace HH := Aside0.mk (HH.out.keep hsz_ (fun k hk => hot_ k (fun e => NLB.out (e ▸ hk))))
          replace HBX := Aside0.mk ((hot_ _ (type_ne HBX.out HLB.out (by decide))).trans HBX.out)
          try replace HLA := Aside0.mk ((hot_ _ (by first | exact HNE.out | exact HNE.out.symm)).trans HLA.out)
          try replace HMA := Aside0.mk ((hot_ _ (by first | exact HNE.out | exact HNE.out.symm)).trans HMA.out)
          clear NB_ HLB hx_ hsz_ hot_ hbl_
          refine hK.out _ _ (two HBX.out) (fun hHeld => ?_)
          clear hK K
          exact norm_ (by simp only [putAll, Act.put, List.setIfInBounds_toArray, List.set_cons_zero, List.set_cons_succ]; first | done | rfl) (hJ (bA, bB) _ ⟨_, HH.out, HBX.out, NBX.out, HMB.out, NLB.out, HBL.out⟩)
        · go_simp
          obtain ⟨z6, hY_⟩ : ∃ Y, z2.alloc (.cells #[.int .u8 120, .int .u8 121] 5) = Y := ⟨_, rfl⟩
          obtain ⟨bB, hbB⟩ : ∃ b, z2.heap.size = b := ⟨_, rfl⟩
          have hbl_ : Below z2.heap.size z2 z6 := by rw [← hY_]; exact below_alloc (Below.refl _ _) _
          have HLB : Aside0 (z6.heap[bB]? = some (.cells #[.int .u8 120, .int .u8 121] 5 (0, 0))) := ⟨by rw [← hY_, ← hbB]; exact blk_new z2 _⟩
          have NLB := Aside0.mk (HH.out.new_not hbB)
          rw [hY_, hbB]
          have hbE_ := hbB
          clear hY_ hbB
          have HLEB := Aside0.mk (Nat.le_trans HBL.out.size (Nat.le_of_eq hbE_))
          replace HH := Aside0.mk (HH.out.below hbl_)
          replace HBL := Aside0.mk (below_step HBL.out hbl_)
          replace HBX := Aside0.mk (blk_below HBX.out hbl_)
          try have HNE := Aside0.mk (Nat.ne_of_lt (blk_ltE HLA.out hbE_))
          try have HNE := Aside0.mk (Nat.ne_of_lt (blk_ltE HMA.out hbE_))
          try replace HLA := Aside0.mk (blk_below HLA.out hbl_)
          try replace HMA := Aside0.mk (blk_below HMA.out hbl_)
          clear hbl_ hbE_
          refine hK.out _ _ (two HBX.out) (fun hHeld => ?_)
          clear hK K
          refine two_ (i := 4) (j := 8) (Ni := (some 15)) (Nj := (some 19)) #[true, true, true, true, true, true, true, true, false, false, false, false] #[true, true, true, true, false, true, true, true, true, false, false, false] rfl rfl rfl rfl (two_of HT_.out (by kernel_rfl)) (by decide) (by decide) (fun K hK => ?_) (fun K hK => ?_)
          · refine goes_ Try.func14 (by kernel_rfl) rfl #[.pointer (some ⟨g, 0, none⟩), .agg #[.int .i64 1, .int .i64 0], .slice (some ⟨bA, 0, none⟩) 2 2] (by rfl) rfl rfl (by (try simp only [List.map_toArray, List.map_cons, List.map_nil]); first | done | rfl) ?_
            with_reducible refine (progXY HH.out HMA.out NLA.out).mono ?_
            rintro ev_ z7 ⟨rfl, S, hh_, hn_⟩
            refine ⟨_, rfl, ?_⟩
            rw [aw_a]
            replace HBL := Aside0.mk (HBL.out.trans (hn_.bel.mono HBS.out))
            obtain ⟨x1_, x2_⟩ := hn_.both HBX.out NBX.out
            clear HBX NBX
            have HBX := Aside0.mk x1_
            have NBX := Aside0.mk x2_
            clear x1_ x2_
            try (obtain ⟨x1_, x2_⟩ := hn_.both HLA.out NLA.out; clear HLA NLA; have HLA := Aside0.mk x1_; have NLA := Aside0.mk x2_; clear x1_ x2_)
            try (obtain ⟨x1_, x2_⟩ := hn_.both HLB.out NLB.out; clear HLB NLB; have HLB := Aside0.mk x1_; have NLB := Aside0.mk x2_; clear x1_ x2_)
            try (obtain ⟨x1_, x2_⟩ := hn_.both HMA.out NLA.out; clear HMA NLA; have HMA := Aside0.mk x1_; have NLA := Aside0.mk x2_; clear x1_ x2_)
            try (obtain ⟨x1_, x2_⟩ := hn_.both HMB.out NLB.out; clear HMB NLB; have HMB := Aside0.mk x1_; have NLB := Aside0.mk x2_; clear x1_ x2_)
            clear HH hn_
            have HH := Aside0.mk hh_
            clear hh_
            refine hK.out _ _ (two HBX.out) (fun hHeld => ?_)
            clear hK K
            refine norm_ (a' := ?_) ?_ ?_
            rotate_left
            · show Act.put _ (some 15) _ = _
              simp only [Act.put, List.setIfInBounds_toArray, List.set_cons_zero, List.set_cons_succ, i64_w, i32_w]
              rfl
            refine one_ (i := 8) (N := (some 19)) #[true, true, true, true, true, true, true, true, true, false, false, false] rfl rfl (one_of HT_.out (by kernel_rfl)) (by decide) (fun K hK => ?_)
            obtain ⟨z8, hcv_, hx_, hsz_, hot_, hbl_⟩ := conv_mark HLB.out 2 2
            go_simp
            clear hcv_
            replace HBL := Aside0.mk (HBL.out.trans (hbl_.mono HLEB.out))
            have HMB := Aside0.mk hx_
            have NB_ := Aside0.mk NLB.out
            replace HH := Aside0.mk (HH.out.keep hsz_ (fun k hk => hot_ k (fun e => NLB.out (e ▸ hk))))
            replace HBX := Aside0.mk ((hot_ _ (type_ne HBX.out HLB.out (by decide))).trans HBX.out)
            try replace HLA := Aside0.mk ((hot_ _ (by first | exact HNE.out | exact HNE.out.symm)).trans HLA.out)
            try replace HMA := Aside0.mk ((hot_ _ (by first | exact HNE.out | exact HNE.out.symm)).trans HMA.out)
            clear NB_ HLB hx_ hsz_ hot_ hbl_
            refine hK.out _ _ (two HBX.out) (fun hHeld => ?_)
            clear hK K
            exact norm_ (by simp only [putAll, Act.put, List.setIfInBounds_toArray, List.set_cons_zero, List.set_cons_succ]; first | done | rfl) (hJ (bA, bB) _ ⟨_, HH.out, HBX.out, NBX.out, HMB.out, NLB.out, HBL.out⟩)
          · obtain ⟨z9, hcv_, hx_, hsz_, hot_, hbl_⟩ := conv_mark HLB.out 2 2
            go_simp
            clear hcv_
            replace HBL := Aside0.mk (HBL.out.trans (hbl_.mono HLEB.out))
            have HMB := Aside0.mk hx_
            have NB_ := Aside0.mk NLB.out
            replace HH := Aside0.mk (HH.out.keep hsz_ (fun k hk => hot_ k (fun e => NLB.out (e ▸ hk))))
            replace HBX := Aside0.mk ((hot_ _ (type_ne HBX.out HLB.out (by decide))).trans HBX.out)
            try replace HLA := Aside0.mk ((hot_ _ (by first | exact HNE.out | exact HNE.out.symm)).trans HLA.out)
            try replace HMA := Aside0.mk ((hot_ _ (by first | exact HNE.out | exact HNE.out.symm)).trans HMA.out)
            clear NB_ HLB hx_ hsz_ hot_ hbl_
            refine hK.out _ _ (two HBX.out) (fun hHeld => ?_)
            clear hK K
            refine one_ (i := 4) (N := (some 15)) #[true, true, true, true, true, true, true, true, true, false, false, false] rfl rfl (one_of HT_.out (by kernel_rfl)) (by decide) (fun K hK => ?_)
            refine goes_ Try.func14 (by kernel_rfl) rfl #[.pointer (some ⟨g, 0, none⟩), .agg #[.int .i64 1, .int .i64 0], .slice (some ⟨bA, 0, none⟩) 2 2] (by rfl) rfl rfl (by (try simp only [List.map_toArray, List.map_cons, List.map_nil]); first | done | rfl) ?_
            with_reducible refine (progXY HH.out HMA.out NLA.out).mono ?_
            rintro ev_ z10 ⟨rfl, S, hh_, hn_⟩
            refine ⟨_, rfl, ?_⟩
            rw [aw_a]
            replace HBL := Aside0.mk (HBL.out.trans (hn_.bel.mono HBS.out))
            obtain ⟨x1_, x2_⟩ := hn_.both HBX.out NBX.out
            clear HBX NBX
            have HBX := Aside0.mk x1_
            have NBX := Aside0.mk x2_
            clear x1_ x2_
            try (obtain ⟨x1_, x2_⟩ := hn_.both HLA.out NLA.out; clear HLA NLA; have HLA := Aside0.mk x1_; have NLA := Aside0.mk x2_; clear x1_ x2_)
            try (obtain ⟨x1_, x2_⟩ := hn_.both HLB.out NLB.out; clear HLB NLB; have HLB := Aside0.mk x1_; have NLB := Aside0.mk x2_; clear x1_ x2_)
            try (obtain ⟨x1_, x2_⟩ := hn_.both HMA.out NLA.out; clear HMA NLA; have HMA := Aside0.mk x1_; have NLA := Aside0.mk x2_; clear x1_ x2_)
            try (obtain ⟨x1_, x2_⟩ := hn_.both HMB.out NLB.out; clear HMB NLB; have HMB := Aside0.mk x1_; have NLB := Aside0.mk x2_; clear x1_ x2_)
            clear HH hn_
            have HH := Aside0.mk hh_
            clear hh_
            refine hK.out _ _ (two HBX.out) (fun hHeld => ?_)
            clear hK K
            refine norm_ (a' := ?_) ?_ ?_
            rotate_left
            · show Act.put _ (some 15) _ = _
              simp only [Act.put, List.setIfInBounds_toArray, List.set_cons_zero, List.set_cons_succ, i64_w, i32_w]
              rfl
            exact norm_ (by simp only [putAll, Act.put, List.setIfInBounds_toArray, List.set_cons_zero, List.set_cons_succ]; first | done | rfl) (hJ (bA, bB) _ ⟨_, HH.out, HBX.out, NBX.out, HMB.out, NLB.out, HBL.out⟩)
      · go_simp
        obtain ⟨z11, hY_⟩ : ∃ Y, z1.alloc (.cells #[.int .u8 120, .int .u8 121] 5) = Y := ⟨_, rfl⟩
        obtain ⟨bB, hbB⟩ : ∃ b, z1.heap.size = b := ⟨_, rfl⟩
        have hbl_ : Below z1.heap.size z1 z11 := by rw [← hY_]; exact below_alloc (Below.refl _ _) _
        have HLB : Aside0 (z11.heap[bB]? = some (.cells #[.int .u8 120, .int .u8 121] 5 (0, 0))) := ⟨by rw [← hY_, ← hbB]; exact blk_new z1 _⟩
        have NLB := Aside0.mk (HH.out.new_not hbB)
        rw [hY_, hbB]
        have hbE_ := hbB
        clear hY_ hbB
        have HLEB := Aside0.mk (Nat.le_trans HBL.out.size (Nat.le_of_eq hbE_))
        replace HH := Aside0.mk (HH.out.below hbl_)
        replace HBL := Aside0.mk (below_step HBL.out hbl_)
        replace HBX := Aside0.mk (blk_below HBX.out hbl_)
        try have HNE := Aside0.mk (Nat.ne_of_lt (blk_ltE HLA.out hbE_))
        try have HNE := Aside0.mk (Nat.ne_of_lt (blk_ltE HMA.out hbE_))
        try replace HLA := Aside0.mk (blk_below HLA.out hbl_)
        try replace HMA := Aside0.mk (blk_below HMA.out hbl_)
        clear hbl_ hbE_
        refine hK.out _ _ (two HBX.out) (fun hHeld => ?_)
        clear hK K
        refine two_ (i := 3) (j := 8) (Ni := (some 14)) (Nj := (some 19)) #[true, true, true, true, false, true, true, true, false, false, false, false] #[true, true, true, false, false, true, true, true, true, false, false, false] rfl rfl rfl rfl (two_of HT_.out (by kernel_rfl)) (by decide) (by decide) (fun K hK => ?_) (fun K hK => ?_)
        · obtain ⟨z12, hcv_, hx_, hsz_, hot_, hbl_⟩ := conv_mark HLA.out 2 2
          go_simp
          clear hcv_
          replace HBL := Aside0.mk (HBL.out.trans (hbl_.mono HLEA.out))
          have HMA := Aside0.mk hx_
          have NA_ := Aside0.mk NLA.out
          replace HH := Aside0.mk (HH.out.keep hsz_ (fun k hk => hot_ k (fun e => NLA.out (e ▸ hk))))
          replace HBX := Aside0.mk ((hot_ _ (type_ne HBX.out HLA.out (by decide))).trans HBX.out)
          try replace HLB := Aside0.mk ((hot_ _ (by first | exact HNE.out | exact HNE.out.symm)).trans HLB.out)
          try replace HMB := Aside0.mk ((hot_ _ (by first | exact HNE.out | exact HNE.out.symm)).trans HMB.out)
          clear NA_ HLA hx_ hsz_ hot_ hbl_
          refine hK.out _ _ (two HBX.out) (fun hHeld => ?_)
          clear hK K
          refine two_ (i := 4) (j := 8) (Ni := (some 15)) (Nj := (some 19)) #[true, true, true, true, true, true, true, true, false, false, false, false] #[true, true, true, true, false, true, true, true, true, false, false, false] rfl rfl rfl rfl (two_of HT_.out (by kernel_rfl)) (by decide) (by decide) (fun K hK => ?_) (fun K hK => ?_)
          · refine goes_ Try.func14 (by kernel_rfl) rfl #[.pointer (some ⟨g, 0, none⟩), .agg #[.int .i64 1, .int .i64 0], .slice (some ⟨bA, 0, none⟩) 2 2] (by rfl) rfl rfl (by (try simp only [List.map_toArray, List.map_cons, List.map_nil]); first | done | rfl) ?_
            with_reducible refine (progXY HH.out HMA.out NLA.out).mono ?_
            rintro ev_ z13 ⟨rfl, S, hh_, hn_⟩
            refine ⟨_, rfl, ?_⟩
            rw [aw_a]
            replace HBL := Aside0.mk (HBL.out.trans (hn_.bel.mono HBS.out))
            obtain ⟨x1_, x2_⟩ := hn_.both HBX.out NBX.out
            clear HBX NBX
            have HBX := Aside0.mk x1_
            have NBX := Aside0.mk x2_
            clear x1_ x2_
            try (obtain ⟨x1_, x2_⟩ := hn_.both HLA.out NLA.out; clear HLA NLA; have HLA := Aside0.mk x1_; have NLA := Aside0.mk x2_; clear x1_ x2_)
            try (obtain ⟨x1_, x2_⟩ := hn_.both HLB.out NLB.out; clear HLB NLB; have HLB := Aside0.mk x1_; have NLB := Aside0.mk x2_; clear x1_ x2_)
            try (obtain ⟨x1_, x2_⟩ := hn_.both HMA.out NLA.out; clear HMA NLA; have HMA := Aside0.mk x1_; have NLA := Aside0.mk x2_; clear x1_ x2_)
            try (obtain ⟨x1_, x2_⟩ := hn_.both HMB.out NLB.out; clear HMB NLB; have HMB := Aside0.mk x1_; have NLB := Aside0.mk x2_; clear x1_ x2_)
            clear HH hn_
            have HH := Aside0.mk hh_
            clear hh_
            refine hK.out _ _ (two HBX.out) (fun hHeld => ?_)
            clear hK K
            refine norm_ (a' := ?_) ?_ ?_
            rotate_left
            · show Act.put _ (some 15) _ = _
              simp only [Act.put, List.setIfInBounds_toArray, List.set_cons_zero, List.set_cons_succ, i64_w, i32_w]
              rfl
            refine one_ (i := 8) (N := (some 19)) #[true, true, true, true, true, true, true, true, true, false, false, false] rfl rfl (one_of HT_.out (by kernel_rfl)) (by decide) (fun K hK => ?_)
            obtain ⟨z14, hcv_, hx_, hsz_, hot_, hbl_⟩ := conv_mark HLB.out 2 2
            go_simp
            clear hcv_
            replace HBL := Aside0.mk (HBL.out.trans (hbl_.mono HLEB.out))
            have HMB := Aside0.mk hx_
            have NB_ := Aside0.mk NLB.out
            replace HH := Aside0.mk (HH.out.keep hsz_ (fun k hk => hot_ k (fun e => NLB.out (e ▸ hk))))
            replace HBX := Aside0.mk ((hot_ _ (type_ne HBX.out HLB.out (by decide))).trans HBX.out)
            try replace HLA := Aside0.mk ((hot_ _ (by first | exact HNE.out | exact HNE.out.symm)).trans HLA.out)
            try replace HMA := Aside0.mk ((hot_ _ (by first | exact HNE.out | exact HNE.out.symm)).trans HMA.out)
            clear NB_ HLB hx_ hsz_ hot_ hbl_
            refine hK.out _ _ (two HBX.out) (fun hHeld => ?_)
            clear hK K
            exact norm_ (by simp only [putAll, Act.put, List.setIfInBounds_toArray, List.set_cons_zero, List.set_cons_succ]; first | done | rfl) (hJ (bA, bB) _ ⟨_, HH.out, HBX.out, NBX.out, HMB.out, NLB.out, HBL.out⟩)
          · obtain ⟨z15, hcv_, hx_, hsz_, hot_, hbl_⟩ := conv_mark HLB.out 2 2
            go_simp
            clear hcv_
            replace HBL := Aside0.mk (HBL.out.trans (hbl_.mono HLEB.out))
            have HMB := Aside0.mk hx_
            have NB_ := Aside0.mk NLB.out
            replace HH := Aside0.mk (HH.out.keep hsz_ (fun k hk => hot_ k (fun e => NLB.out (e ▸ hk))))
            replace HBX := Aside0.mk ((hot_ _ (type_ne HBX.out HLB.out (by decide))).trans HBX.out)
            try replace HLA := Aside0.mk ((hot_ _ (by first | exact HNE.out | exact HNE.out.symm)).trans HLA.out)
            try replace HMA := Aside0.mk ((hot_ _ (by first | exact HNE.out | exact HNE.out.symm)).trans HMA.out)
            clear NB_ HLB hx_ hsz_ hot_ hbl_
            refine hK.out _ _ (two HBX.out) (fun hHeld => ?_)
            clear hK K
            refine one_ (i := 4) (N := (some 15)) #[true, true, true, true, true, true, true, true, true, false, false, false] rfl rfl (one_of HT_.out (by kernel_rfl)) (by decide) (fun K hK => ?_)
            refine goes_ Try.func14 (by kernel_rfl) rfl #[.pointer (some ⟨g, 0, none⟩), .agg #[.int .i64 1, .int .i64 0], .slice (some ⟨bA, 0, none⟩) 2 2] (by rfl) rfl rfl (by (try simp only [List.map_toArray, List.map_cons, List.map_nil]); first | done | rfl) ?_
            with_reducible refine (progXY HH.out HMA.out NLA.out).mono ?_
            rintro ev_ z16 ⟨rfl, S, hh_, hn_⟩
            refine ⟨_, rfl, ?_⟩
            rw [aw_a]
            replace HBL := Aside0.mk (HBL.out.trans (hn_.bel.mono HBS.out))
            obtain ⟨x1_, x2_⟩ := hn_.both HBX.out NBX.out
            clear HBX NBX
            have HBX := Aside0.mk x1_
            have NBX := Aside0.mk x2_
            clear x1_ x2_
            try (obtain ⟨x1_, x2_⟩ := hn_.both HLA.out NLA.out; clear HLA NLA; have HLA := Aside0.mk x1_; have NLA := Aside0.mk x2_; clear x1_ x2_)
            try (obtain ⟨x1_, x2_⟩ := hn_.both HLB.out NLB.out; clear HLB NLB; have HLB := Aside0.mk x1_; have NLB := Aside0.mk x2_; clear x1_ x2_)
            try (obtain ⟨x1_, x2_⟩ := hn_.both HMA.out NLA.out; clear HMA NLA; have HMA := Aside0.mk x1_; have NLA := Aside0.mk x2_; clear x1_ x2_)
            try (obtain ⟨x1_, x2_⟩ := hn_.both HMB.out NLB.out; clear HMB NLB; have HMB := Aside0.mk x1_; have NLB := Aside0.mk x2_; clear x1_ x2_)
            clear HH hn_
            have HH := Aside0.mk hh_
            clear hh_
            refine hK.out _ _ (two HBX.out) (fun hHeld => ?_)
            clear hK K
            refine norm_ (a' := ?_) ?_ ?_
            rotate_left
            · show Act.put _ (some 15) _ = _
              simp only [Act.put, List.setIfInBounds_toArray, List.set_cons_zero, List.set_cons_succ, i64_w, i32_w]
              rfl
            exact norm_ (by simp only [putAll, Act.put, List.setIfInBounds_toArray, List.set_cons_zero, List.set_cons_succ]; first | done | rfl) (hJ (bA, bB) _ ⟨_, HH.out, HBX.out, NBX.out, HMB.out, NLB.out, HBL.out⟩)
        · obtain ⟨z17, hcv_, hx_, hsz_, hot_, hbl_⟩ := conv_mark HLB.out 2 2
          go_simp
          clear hcv_
          replace HBL := Aside0.mk (HBL.out.trans (hbl_.mono HLEB.out))
          have HMB := Aside0.mk hx_
          have NB_ := Aside0.mk NLB.out
          replace HH := Aside0.mk (HH.out.keep hsz_ (fun k hk => hot_ k (fun e => NLB.out (e ▸ hk))))
          replace HBX := Aside0.mk ((hot_ _ (type_ne HBX.out HLB.out (by decide))).trans HBX.out)
          try replace HLA := Aside0.mk ((hot_ _ (by first | exact HNE.out | exact HNE.out.symm)).trans HLA.out)
          try replace HMA := Aside0.mk ((hot_ _ (by first | exact HNE.out | exact HNE.out.symm)).trans HMA.out)
          clear NB_ HLB hx_ hsz_ hot_ hbl_
          refine hK.out _ _ (two HBX.out) (fun hHeld => ?_)
          clear hK K
          refine one_ (i := 3) (N := (some 14)) #[true, true, true, true, false, true, true, true, true, false, false, false] rfl rfl (one_of HT_.out (by kernel_rfl)) (by decide) (fun K hK => ?_)
          obtain ⟨z18, hcv_, hx_, hsz_, hot_, hbl_⟩ := conv_mark HLA.out 2 2
          go_simp
          clear hcv_
          replace HBL := Aside0.mk (HBL.out.trans (hbl_.mono HLEA.out))
          have HMA := Aside0.mk hx_
          have NA_ := Aside0.mk NLA.out
          replace HH := Aside0.mk (HH.out.keep hsz_ (fun k hk => hot_ k (fun e => NLA.out (e ▸ hk))))
          replace HBX := Aside0.mk ((hot_ _ (type_ne HBX.out HLA.out (by decide))).trans HBX.out)
          try replace HLB := Aside0.mk ((hot_ _ (by first | exact HNE.out | exact HNE.out.symm)).trans HLB.out)
          try replace HMB := Aside0.mk ((hot_ _ (by first | exact HNE.out | exact HNE.out.symm)).trans HMB.out)
          clear NA_ HLA hx_ hsz_ hot_ hbl_
          refine hK.out _ _ (two HBX.out) (fun hHeld => ?_)
          clear hK K
          refine one_ (i := 4) (N := (some 15)) #[true, true, true, true, true, true, true, true, true, false, false, false] rfl rfl (one_of HT_.out (by kernel_rfl)) (by decide) (fun K hK => ?_)
          refine goes_ Try.func14 (by kernel_rfl) rfl #[.pointer (some ⟨g, 0, none⟩), .agg #[.int .i64 1, .int .i64 0], .slice (some ⟨bA, 0, none⟩) 2 2] (by rfl) rfl rfl (by (try simp only [List.map_toArray, List.map_cons, List.map_nil]); first | done | rfl) ?_
          with_reducible refine (progXY HH.out HMA.out NLA.out).mono ?_
          rintro ev_ z19 ⟨rfl, S, hh_, hn_⟩
          refine ⟨_, rfl, ?_⟩
          rw [aw_a]
          replace HBL := Aside0.mk (HBL.out.trans (hn_.bel.mono HBS.out))
          obtain ⟨x1_, x2_⟩ := hn_.both HBX.out NBX.out
          clear HBX NBX
          have HBX := Aside0.mk x1_
          have NBX := Aside0.mk x2_
          clear x1_ x2_
          try (obtain ⟨x1_, x2_⟩ := hn_.both HLA.out NLA.out; clear HLA NLA; have HLA := Aside0.mk x1_; have NLA := Aside0.mk x2_; clear x1_ x2_)
          try (obtain ⟨x1_, x2_⟩ := hn_.both HLB.out NLB.out; clear HLB NLB; have HLB := Aside0.mk x1_; have NLB := Aside0.mk x2_; clear x1_ x2_)
          try (obtain ⟨x1_, x2_⟩ := hn_.both HMA.out NLA.out; clear HMA NLA; have HMA := Aside0.mk x1_; have NLA := Aside0.mk x2_; clear x1_ x2_)
          try (obtain ⟨x1_, x2_⟩ := hn_.both HMB.out NLB.out; clear HMB NLB; have HMB := Aside0.mk x1_; have NLB := Aside0.mk x2_; clear x1_ x2_)
          clear HH hn_
          have HH := Aside0.mk hh_
          clear hh_
          refine hK.out _ _ (two HBX.out) (fun hHeld => ?_)
          clear hK K
          refine norm_ (a' := ?_) ?_ ?_
          rotate_left
          · show Act.put _ (some 15) _ = _
            simp only [Act.put, List.setIfInBounds_toArray, List.set_cons_zero, List.set_cons_succ, i64_w, i32_w]
            rfl
          exact norm_ (by simp only [putAll, Act.put, List.setIfInBounds_toArray, List.set_cons_zero, List.set_cons_succ]; first | done | rfl) (hJ (bA, bB) _ ⟨_, HH.out, HBX.out, NBX.out, HMB.out, NLB.out, HBL.out⟩)
    · go_simp
      obtain ⟨z20, hY_⟩ : ∃ Y, z0.alloc (.cells #[.int .u8 120, .int .u8 121] 5) = Y := ⟨_, rfl⟩
      obtain ⟨bB, hbB⟩ : ∃ b, z0.heap.size = b := ⟨_, rfl⟩
      have hbl_ : Below z0.heap.size z0 z20 := by rw [← hY_]; exact below_alloc (Below.refl _ _) _
      have HLB : Aside0 (z20.heap[bB]? = some (.cells #[.int .u8 120, .int .u8 121] 5 (0, 0))) := ⟨by rw [← hY_, ← hbB]; exact blk_new z0 _⟩
      have NLB := Aside0.mk (HH.out.new_not hbB)
      rw [hY_, hbB]
      have hbE_ := hbB
      clear hY_ hbB
      have HLEB := Aside0.mk (Nat.le_trans HBL.out.size (Nat.le_of_eq hbE_))
      replace HH := Aside0.mk (HH.out.below hbl_)
      replace HBL := Aside0.mk (below_step HBL.out hbl_)
      replace HBX := Aside0.mk (blk_below HBX.out hbl_)
      try have HNE := Aside0.mk (Nat.ne_of_lt (blk_ltE HLA.out hbE_))
      try have HNE := Aside0.mk (Nat.ne_of_lt (blk_ltE HMA.out hbE_))
      try replace HLA := Aside0.mk (blk_below HLA.out hbl_)
      try replace HMA := Aside0.mk (blk_below HMA.out hbl_)
      clear hbl_ hbE_
      refine hK.out _ _ (two HBX.out) (fun hHeld => ?_)
      clear hK K
      refine two_ (i := 2) (j := 8) (Ni := (some 13)) (Nj := (some 19)) #[true, true, true, false, false, true, true, true, false, false, false, false] #[true, true, false, false, false, true, true, true, true, false, false, false] rfl rfl rfl rfl (two_of HT_.out (by kernel_rfl)) (by decide) (by decide) (fun K hK => ?_) (fun K hK => ?_)
      · go_simp
        obtain ⟨z21, hY_⟩ : ∃ Y, z20.alloc (.cells #[.int .u8 120, .int .u8 121] 5) = Y := ⟨_, rfl⟩
        obtain ⟨bA, hbA⟩ : ∃ b, z20.heap.size = b := ⟨_, rfl⟩
        have hbl_ : Below z20.heap.size z20 z21 := by rw [← hY_]; exact below_alloc (Below.refl _ _) _
        have HLA : Aside0 (z21.heap[bA]? = some (.cells #[.int .u8 120, .int .u8 121] 5 (0, 0))) := ⟨by rw [← hY_, ← hbA]; exact blk_new z20 _⟩
        have NLA := Aside0.mk (HH.out.new_not hbA)
        rw [hY_, hbA]
        have hbE_ := hbA
        clear hY_ hbA
        have HLEA := Aside0.mk (Nat.le_trans HBL.out.size (Nat.le_of_eq hbE_))
        replace HH := Aside0.mk (HH.out.below hbl_)
        replace HBL := Aside0.mk (below_step HBL.out hbl_)
        replace HBX := Aside0.mk (blk_below HBX.out hbl_)
        try have HNE := Aside0.mk (Nat.ne_of_lt (blk_ltE HLB.out hbE_))
        try have HNE := Aside0.mk (Nat.ne_of_lt (blk_ltE HMB.out hbE_))
        try replace HLB := Aside0.mk (blk_below HLB.out hbl_)
        try replace HMB := Aside0.mk (blk_below HMB.out hbl_)
        clear hbl_ hbE_
        refine hK.out _ _ (two HBX.out) (fun hHeld => ?_)
        clear hK K
        refine two_ (i := 3) (j := 8) (Ni := (some 14)) (Nj := (some 19)) #[true, true, true, true, false, true, true, true, false, false, false, false] #[true, true, true, false, false, true, true, true, true, false, false, false] rfl rfl rfl rfl (two_of HT_.out (by kernel_rfl)) (by decide) (by decide) (fun K hK => ?_) (fun K hK => ?_)
        · obtain ⟨z22, hcv_, hx_, hsz_, hot_, hbl_⟩ := conv_mark HLA.out 2 2
          go_simp
          clear hcv_
          replace HBL := Aside0.mk (HBL.out.trans (hbl_.mono HLEA.out))
          have HMA := Aside0.mk hx_
          have NA_ := Aside0.mk NLA.out
          replace HH := Aside0.mk (HH.out.keep hsz_ (fun k hk => hot_ k (fun e => NLA.out (e ▸ hk))))
          replace HBX := Aside0.mk ((hot_ _ (type_ne HBX.out HLA.out (by decide))).trans HBX.out)
          try replace HLB := Aside0.mk ((hot_ _ (by first | exact HNE.out | exact HNE.out.symm)).trans HLB.out)
          try replace HMB := Aside0.mk ((hot_ _ (by first | exact HNE.out | exact HNE.out.symm)).trans HMB.out)
          clear NA_ HLA hx_ hsz_ hot_ hbl_
          refine hK.out _ _ (two HBX.out) (fun hHeld => ?_)
          clear hK K
          refine two_ (i := 4) (j := 8) (Ni := (some 15)) (Nj := (some 19)) #[true, true, true, true, true, true, true, true, false, false, false, false] #[true, true, true, true, false, true, true, true, true, false, false, false] rfl rfl rfl rfl (two_of HT_.out (by kernel_rfl)) (by decide) (by decide) (fun K hK => ?_) (fun K hK => ?_)
          · refine goes_ Try.func14 (by kernel_rfl) rfl #[.pointer (some ⟨g, 0, none⟩), .agg #[.int .i64 1, .int .i64 0], .slice (some ⟨bA, 0, none⟩) 2 2] (by rfl) rfl rfl (by (try simp only [List.map_toArray, List.map_cons, List.map_nil]); first | done | rfl) ?_
            with_reducible refine (progXY HH.out HMA.out NLA.out).mono ?_
            rintro ev_ z23 ⟨rfl, S, hh_, hn_⟩
            refine ⟨_, rfl, ?_⟩
            rw [aw_a]
            replace HBL := Aside0.mk (HBL.out.trans (hn_.bel.mono HBS.out))
            obtain ⟨x1_, x2_⟩ := hn_.both HBX.out NBX.out
            clear HBX NBX
            have HBX := Aside0.mk x1_
            have NBX := Aside0.mk x2_
            clear x1_ x2_
            try (obtain ⟨x1_, x2_⟩ := hn_.both HLA.out NLA.out; clear HLA NLA; have HLA := Aside0.mk x1_; have NLA := Aside0.mk x2_; clear x1_ x2_)
            try (obtain ⟨x1_, x2_⟩ := hn_.both HLB.out NLB.out; clear HLB NLB; have HLB := Aside0.mk x1_; have NLB := Aside0.mk x2_; clear x1_ x2_)
            try (obtain ⟨x1_, x2_⟩ := hn_.both HMA.out NLA.out; clear HMA NLA; have HMA := Aside0.mk x1_; have NLA := Aside0.mk x2_; clear x1_ x2_)
            try (obtain ⟨x1_, x2_⟩ := hn_.both HMB.out NLB.out; clear HMB NLB; have HMB := Aside0.mk x1_; have NLB := Aside0.mk x2_; clear x1_ x2_)
            clear HH hn_
            have HH := Aside0.mk hh_
            clear hh_
            refine hK.out _ _ (two HBX.out) (fun hHeld => ?_)
            clear hK K
            refine norm_ (a' := ?_) ?_ ?_
            rotate_left
            · show Act.put _ (some 15) _ = _
              simp only [Act.put, List.setIfInBounds_toArray, List.set_cons_zero, List.set_cons_succ, i64_w, i32_w]
              rfl
            refine one_ (i := 8) (N := (some 19)) #[true, true, true, true, true, true, true, true, true, false, false, false] rfl rfl (one_of HT_.out (by kernel_rfl)) (by decide) (fun K hK => ?_)
            obtain ⟨z24, hcv_, hx_, hsz_, hot_, hbl_⟩ := conv_mark HLB.out 2 2
            go_simp
            clear hcv_
            replace HBL := Aside0.mk (HBL.out.trans (hbl_.mono HLEB.out))
            have HMB := Aside0.mk hx_
            have NB_ := Aside0.mk NLB.out
            replace HH := Aside0.mk (HH.out.keep hsz_ (fun k hk => hot_ k (fun e => NLB.out (e ▸ hk))))
            replace HBX := Aside0.mk ((hot_ _ (type_ne HBX.out HLB.out (by decide))).trans HBX.out)
            try replace HLA := Aside0.mk ((hot_ _ (by first | exact HNE.out | exact HNE.out.symm)).trans HLA.out)
            try replace HMA := Aside0.mk ((hot_ _ (by first | exact HNE.out | exact HNE.out.symm)).trans HMA.out)
            clear NB_ HLB hx_ hsz_ hot_ hbl_
            refine hK.out _ _ (two HBX.out) (fun hHeld => ?_)
            clear hK K
            exact norm_ (by simp only [putAll, Act.put, List.setIfInBounds_toArray, List.set_cons_zero, List.set_cons_succ]; first | done | rfl) (hJ (bA, bB) _ ⟨_, HH.out, HBX.out, NBX.out, HMB.out, NLB.out, HBL.out⟩)
          · obtain ⟨z25, hcv_, hx_, hsz_, hot_, hbl_⟩ := conv_mark HLB.out 2 2
            go_simp
            clear hcv_
            replace HBL := Aside0.mk (HBL.out.trans (hbl_.mono HLEB.out))
            have HMB := Aside0.mk hx_
            have NB_ := Aside0.mk NLB.out
            replace HH := Aside0.mk (HH.out.keep hsz_ (fun k hk => hot_ k (fun e => NLB.out (e ▸ hk))))
            replace HBX := Aside0.mk ((hot_ _ (type_ne HBX.out HLB.out (by decide))).trans HBX.out)
            try replace HLA := Aside0.mk ((hot_ _ (by first | exact HNE.out | exact HNE.out.symm)).trans HLA.out)
            try replace HMA := Aside0.mk ((hot_ _ (by first | exact HNE.out | exact HNE.out.symm)).trans HMA.out)
            clear NB_ HLB hx_ hsz_ hot_ hbl_
            refine hK.out _ _ (two HBX.out) (fun hHeld => ?_)
            clear hK K
            refine one_ (i := 4) (N := (some 15)) #[true, true, true, true, true, true, true, true, true, false, false, false] rfl rfl (one_of HT_.out (by kernel_rfl)) (by decide) (fun K hK => ?_)
            refine goes_ Try.func14 (by kernel_rfl) rfl #[.pointer (some ⟨g, 0, none⟩), .agg #[.int .i64 1, .int .i64 0], .slice (some ⟨bA, 0, none⟩) 2 2] (by rfl) rfl rfl (by (try simp only [List.map_toArray, List.map_cons, List.map_nil]); first | done | rfl) ?_
            with_reducible refine (progXY HH.out HMA.out NLA.out).mono ?_
            rintro ev_ z26 ⟨rfl, S, hh_, hn_⟩
            refine ⟨_, rfl, ?_⟩
            rw [aw_a]
            replace HBL := Aside0.mk (HBL.out.trans (hn_.bel.mono HBS.out))
            obtain ⟨x1_, x2_⟩ := hn_.both HBX.out NBX.out
            clear HBX NBX
            have HBX := Aside0.mk x1_
            have NBX := Aside0.mk x2_
            clear x1_ x2_
            try (obtain ⟨x1_, x2_⟩ := hn_.both HLA.out NLA.out; clear HLA NLA; have HLA := Aside0.mk x1_; have NLA := Aside0.mk x2_; clear x1_ x2_)
            try (obtain ⟨x1_, x2_⟩ := hn_.both HLB.out NLB.out; clear HLB NLB; have HLB := Aside0.mk x1_; have NLB := Aside0.mk x2_; clear x1_ x2_)
            try (obtain ⟨x1_, x2_⟩ := hn_.both HMA.out NLA.out; clear HMA NLA; have HMA := Aside0.mk x1_; have NLA := Aside0.mk x2_; clear x1_ x2_)
            try (obtain ⟨x1_, x2_⟩ := hn_.both HMB.out NLB.out; clear HMB NLB; have HMB := Aside0.mk x1_; have NLB := Aside0.mk x2_; clear x1_ x2_)
            clear HH hn_
            have HH := Aside0.mk hh_
            clear hh_
            refine hK.out _ _ (two HBX.out) (fun hHeld => ?_)
            clear hK K
            refine norm_ (a' := ?_) ?_ ?_
            rotate_left
            · show Act.put _ (some 15) _ = _
              simp only [Act.put, List.setIfInBounds_toArray, List.set_cons_zero, List.set_cons_succ, i64_w, i32_w]
              rfl
            exact norm_ (by simp only [putAll, Act.put, List.setIfInBounds_toArray, List.set_cons_zero, List.set_cons_succ]; first | done | rfl) (hJ (bA, bB) _ ⟨_, HH.out, HBX.out, NBX.out, HMB.out, NLB.out, HBL.out⟩)
        · obtain ⟨z27, hcv_, hx_, hsz_, hot_, hbl_⟩ := conv_mark HLB.out 2 2
          go_simp
          clear hcv_
          replace HBL := Aside0.mk (HBL.out.trans (hbl_.mono HLEB.out))
          have HMB := Aside0.mk hx_
          have NB_ := Aside0.mk NLB.out
          replace HH := Aside0.mk (HH.out.keep hsz_ (fun k hk => hot_ k (fun e => NLB.out (e ▸ hk))))
          replace HBX := Aside0.mk ((hot_ _ (type_ne HBX.out HLB.out (by decide))).trans HBX.out)
          try replace HLA := Aside0.mk ((hot_ _ (by first | exact HNE.out | exact HNE.out.symm)).trans HLA.out)
          try replace HMA := Aside0.mk ((hot_ _ (by first | exact HNE.out | exact HNE.out.symm)).trans HMA.out)
          clear NB_ HLB hx_ hsz_ hot_ hbl_
          refine hK.out _ _ (two HBX.out) (fun hHeld => ?_)
          clear hK K
          refine one_ (i := 3) (N := (some 14)) #[true, true, true, true, false, true, true, true, true, false, false, false] rfl rfl (one_of HT_.out (by kernel_rfl)) (by decide) (fun K hK => ?_)
          obtain ⟨z28, hcv_, hx_, hsz_, hot_, hbl_⟩ := conv_mark HLA.out 2 2
          go_simp
          clear hcv_
          replace HBL := Aside0.mk (HBL.out.trans (hbl_.mono HLEA.out))
          have HMA := Aside0.mk hx_
          have NA_ := Aside0.mk NLA.out
          replace HH := Aside0.mk (HH.out.keep hsz_ (fun k hk => hot_ k (fun e => NLA.out (e ▸ hk))))
          replace HBX := Aside0.mk ((hot_ _ (type_ne HBX.out HLA.out (by decide))).trans HBX.out)
          try replace HLB := Aside0.mk ((hot_ _ (by first | exact HNE.out | exact HNE.out.symm)).trans HLB.out)
          try replace HMB := Aside0.mk ((hot_ _ (by first | exact HNE.out | exact HNE.out.symm)).trans HMB.out)
          clear NA_ HLA hx_ hsz_ hot_ hbl_
          refine hK.out _ _ (two HBX.out) (fun hHeld => ?_)
          clear hK K
          refine one_ (i := 4) (N := (some 15)) #[true, true, true, true, true, true, true, true, true, false, false, false] rfl rfl (one_of HT_.out (by kernel_rfl)) (by decide) (fun K hK => ?_)
          refine goes_ Try.func14 (by kernel_rfl) rfl #[.pointer (some ⟨g, 0, none⟩), .agg #[.int .i64 1, .int .i64 0], .slice (some ⟨bA, 0, none⟩) 2 2] (by rfl) rfl rfl (by (try simp only [List.map_toArray, List.map_cons, List.map_nil]); first | done | rfl) ?_
          with_reducible refine (progXY HH.out HMA.out NLA.out).mono ?_
          rintro ev_ z29 ⟨rfl, S, hh_, hn_⟩
          refine ⟨_, rfl, ?_⟩
          rw [aw_a]
          replace HBL := Aside0.mk (HBL.out.trans (hn_.bel.mono HBS.out))
          obtain ⟨x1_, x2_⟩ := hn_.both HBX.out NBX.out
          clear HBX NBX
          have HBX := Aside0.mk x1_
          have NBX := Aside0.mk x2_
          clear x1_ x2_
          try (obtain ⟨x1_, x2_⟩ := hn_.both HLA.out NLA.out; clear HLA NLA; have HLA := Aside0.mk x1_; have NLA := Aside0.mk x2_; clear x1_ x2_)
          try (obtain ⟨x1_, x2_⟩ := hn_.both HLB.out NLB.out; clear HLB NLB; have HLB := Aside0.mk x1_; have NLB := Aside0.mk x2_; clear x1_ x2_)
          try (obtain ⟨x1_, x2_⟩ := hn_.both HMA.out NLA.out; clear HMA NLA; have HMA := Aside0.mk x1_; have NLA := Aside0.mk x2_; clear x1_ x2_)
          try (obtain ⟨x1_, x2_⟩ := hn_.both HMB.out NLB.out; clear HMB NLB; have HMB := Aside0.mk x1_; have NLB := Aside0.mk x2_; clear x1_ x2_)
          clear HH hn_
          have HH := Aside0.mk hh_
          clear hh_
          refine hK.out _ _ (two HBX.out) (fun hHeld => ?_)
          clear hK K
          refine norm_ (a' := ?_) ?_ ?_
          rotate_left
          · show Act.put _ (some 15) _ = _
            simp only [Act.put, List.setIfInBounds_toArray, List.set_cons_zero, List.set_cons_succ, i64_w, i32_w]
            rfl
          exact norm_ (by simp only [putAll, Act.put, List.setIfInBounds_toArray, List.set_cons_zero, List.set_cons_succ]; first | done | rfl) (hJ (bA, bB) _ ⟨_, HH.out, HBX.out, NBX.out, HMB.out, NLB.out, HBL.out⟩)
      · obtain ⟨z30, hcv_, hx_, hsz_, hot_, hbl_⟩ := conv_mark HLB.out 2 2
        go_simp
        clear hcv_
        replace HBL := Aside0.mk (HBL.out.trans (hbl_.mono HLEB.out))
        have HMB := Aside0.mk hx_
        have NB_ := Aside0.mk NLB.out
        replace HH := Aside0.mk (HH.out.keep hsz_ (fun k hk => hot_ k (fun e => NLB.out (e ▸ hk))))
        replace HBX := Aside0.mk ((hot_ _ (type_ne HBX.out HLB.out (by decide))).trans HBX.out)
        try replace HLA := Aside0.mk ((hot_ _ (by first | exact HNE.out | exact HNE.out.symm)).trans HLA.out)
        try replace HMA := Aside0.mk ((hot_ _ (by first | exact HNE.out | exact HNE.out.symm)).trans HMA.out)
        clear NB_ HLB hx_ hsz_ hot_ hbl_
        refine hK.out _ _ (two HBX.out) (fun hHeld => ?_)
        clear hK K
        refine one_ (i := 2) (N := (some 13)) #[true, true, true, false, false, true, true, true, true, false, false, false] rfl rfl (one_of HT_.out (by kernel_rfl)) (by decide) (fun K hK => ?_)
        go_simp
        obtain ⟨z31, hY_⟩ : ∃ Y, z30.alloc (.cells #[.int .u8 120, .int .u8 121] 5) = Y := ⟨_, rfl⟩
        obtain ⟨bA, hbA⟩ : ∃ b, z30.heap.size = b := ⟨_, rfl⟩
        have hbl_ : Below z30.heap.size z30 z31 := by rw [← hY_]; exact below_alloc (Below.refl _ _) _
        have HLA : Aside0 (z31.heap[bA]? = some (.cells #[.int .u8 120, .int .u8 121] 5 (0, 0))) := ⟨by rw [← hY_, ← hbA]; exact blk_new z30 _⟩
        have NLA := Aside0.mk (HH.out.new_not hbA)
        rw [hY_, hbA]
        have hbE_ := hbA
        clear hY_ hbA
        have HLEA := Aside0.mk (Nat.le_trans HBL.out.size (Nat.le_of_eq hbE_))
        replace HH := Aside0.mk (HH.out.below hbl_)
        replace HBL := Aside0.mk (below_step HBL.out hbl_)
        replace HBX := Aside0.mk (blk_below HBX.out hbl_)
        try have HNE := Aside0.mk (Nat.ne_of_lt (blk_ltE HLB.out hbE_))
        try have HNE := Aside0.mk (Nat.ne_of_lt (blk_ltE HMB.out hbE_))
        try replace HLB := Aside0.mk (blk_below HLB.out hbl_)
        try replace HMB := Aside0.mk (blk_below HMB.out hbl_)
        clear hbl_ hbE_
        refine hK.out _ _ (two HBX.out) (fun hHeld => ?_)
        clear hK K
        refine one_ (i := 3) (N := (some 14)) #[true, true, true, true, false, true, true, true, true, false, false, false] rfl rfl (one_of HT_.out (by kernel_rfl)) (by decide) (fun K hK => ?_)
        obtain ⟨z32, hcv_, hx_, hsz_, hot_, hbl_⟩ := conv_mark HLA.out 2 2
        go_simp
        clear hcv_
        replace HBL := Aside0.mk (HBL.out.trans (hbl_.mono HLEA.out))
        have HMA := Aside0.mk hx_
        have NA_ := Aside0.mk NLA.out
        replace HH := Aside0.mk (HH.out.keep hsz_ (fun k hk => hot_ k (fun e => NLA.out (e ▸ hk))))
        replace HBX := Aside0.mk ((hot_ _ (type_ne HBX.out HLA.out (by decide))).trans HBX.out)
        try replace HLB := Aside0.mk ((hot_ _ (by first | exact HNE.out | exact HNE.out.symm)).trans HLB.out)
        try replace HMB := Aside0.mk ((hot_ _ (by first | exact HNE.out | exact HNE.out.symm)).trans HMB.out)
        clear NA_ HLA hx_ hsz_ hot_ hbl_
        refine hK.out _ _ (two HBX.out) (fun hHeld => ?_)
        clear hK K
        refine one_ (i := 4) (N := (some 15)) #[true, true, true, true, true, true, true, true, true, false, false, false] rfl rfl (one_of HT_.out (by kernel_rfl)) (by decide) (fun K hK => ?_)
        refine goes_ Try.func14 (by kernel_rfl) rfl #[.pointer (some ⟨g, 0, none⟩), .agg #[.int .i64 1, .int .i64 0], .slice (some ⟨bA, 0, none⟩) 2 2] (by rfl) rfl rfl (by (try simp only [List.map_toArray, List.map_cons, List.map_nil]); first | done | rfl) ?_
        with_reducible refine (progXY HH.out HMA.out NLA.out).mono ?_
        rintro ev_ z33 ⟨rfl, S, hh_, hn_⟩
        refine ⟨_, rfl, ?_⟩
        rw [aw_a]
        replace HBL := Aside0.mk (HBL.out.trans (hn_.bel.mono HBS.out))
        obtain ⟨x1_, x2_⟩ := hn_.both HBX.out NBX.out
        clear HBX NBX
        have HBX := Aside0.mk x1_
        have NBX := Aside0.mk x2_
        clear x1_ x2_
        try (obtain ⟨x1_, x2_⟩ := hn_.both HLA.out NLA.out; clear HLA NLA; have HLA := Aside0.mk x1_; have NLA := Aside0.mk x2_; clear x1_ x2_)
        try (obtain ⟨x1_, x2_⟩ := hn_.both HLB.out NLB.out; clear HLB NLB; have HLB := Aside0.mk x1_; have NLB := Aside0.mk x2_; clear x1_ x2_)
        try (obtain ⟨x1_, x2_⟩ := hn_.both HMA.out NLA.out; clear HMA NLA; have HMA := Aside0.mk x1_; have NLA := Aside0.mk x2_; clear x1_ x2_)
        try (obtain ⟨x1_, x2_⟩ := hn_.both HMB.out NLB.out; clear HMB NLB; have HMB := Aside0.mk x1_; have NLB := Aside0.mk x2_; clear x1_ x2_)
        clear HH hn_
        have HH := Aside0.mk hh_
        clear hh_
        refine hK.out _ _ (two HBX.out) (fun hHeld => ?_)
        clear hK K
        refine norm_ (a' := ?_) ?_ ?_
        rotate_left
        · show Act.put _ (some 15) _ = _
          simp only [Act.put, List.setIfInBounds_toArray, List.set_cons_zero, List.set_cons_succ, i64_w, i32_w]
          rfl
        exact norm_ (by simp only [putAll, Act.put, List.setIfInBounds_toArray, List.set_cons_zero, List.set_cons_succ]; first | done | rfl) (hJ (bA, bB) _ ⟨_, HH.out, HBX.out, NBX.out, HMB.out, NLB.out, HBL.out⟩)
  intro s_ y0 hF_
  obtain ⟨bA, bB⟩ := s_
  simp only [putAll, Act.put, List.setIfInBounds_toArray, List.set_cons_zero, List.set_cons_succ]
  clear HH HBX NBX HBL
  obtain ⟨S, hh_, hbx_, nbx_, hmb_, nlb_, hbl0_⟩ := hF_
  have hHeld := two hbx_
  have HH := Aside0.mk hh_
  have HBX := Aside0.mk hbx_
  have NBX := Aside0.mk nbx_
  have HMB := Aside0.mk hmb_
  have NLB := Aside0.mk nlb_
  have HBL := Aside0.mk hbl0_
  clear hh_ hbx_ nbx_ hmb_ nlb_ hbl0_
  refine one_ (i := 9) (N := (some 20)) #[true, true, true, true, true, true, true, true, true, true, false, false] rfl rfl (one_of HT_.out (by kernel_rfl)) (by decide) (fun K hK => ?_)
  refine goes_ Try.func14 (by kernel_rfl) rfl #[.pointer (some ⟨g, 0, none⟩), .agg #[.int .i64 1, .int .i64 0], .slice (some ⟨bB, 0, none⟩) 2 2] (by rfl) rfl rfl (by (try simp only [List.map_toArray, List.map_cons, List.map_nil]); first | done | rfl) ?_
  with_reducible refine (progXY HH.out HMB.out NLB.out).mono ?_
  rintro ev_ z34 ⟨rfl, S, hh_, hn_⟩
  refine ⟨_, rfl, ?_⟩
  rw [aw_b]
  replace HBL := Aside0.mk (HBL.out.trans (hn_.bel.mono HBS.out))
  obtain ⟨x1_, x2_⟩ := hn_.both HBX.out NBX.out
  clear HBX NBX
  have HBX := Aside0.mk x1_
  have NBX := Aside0.mk x2_
  clear x1_ x2_
  try (obtain ⟨x1_, x2_⟩ := hn_.both HLA.out NLA.out; clear HLA NLA; have HLA := Aside0.mk x1_; have NLA := Aside0.mk x2_; clear x1_ x2_)
  try (obtain ⟨x1_, x2_⟩ := hn_.both HLB.out NLB.out; clear HLB NLB; have HLB := Aside0.mk x1_; have NLB := Aside0.mk x2_; clear x1_ x2_)
  try (obtain ⟨x1_, x2_⟩ := hn_.both HMA.out NLA.out; clear HMA NLA; have HMA := Aside0.mk x1_; have NLA := Aside0.mk x2_; clear x1_ x2_)
  try (obtain ⟨x1_, x2_⟩ := hn_.both HMB.out NLB.out; clear HMB NLB; have HMB := Aside0.mk x1_; have NLB := Aside0.mk x2_; clear x1_ x2_)
  clear HH hn_
  have HH := Aside0.mk hh_
  clear hh_
  refine hK.out _ _ (two HBX.out) (fun hHeld => ?_)
  clear hK K
  refine norm_ (a' := ?_) ?_ ?_
  rotate_left
  · show Act.put _ (some 20) _ = _
    simp only [Act.put, List.setIfInBounds_toArray, List.set_cons_zero, List.set_cons_succ, i64_w, i32_w]
    rfl
  refine pure_ (i := 10) (N := (some 3)) (v := ?_) (a' := ?_) #[true, true, true, true, true, true, true, true, true, true, true, false] rfl rfl (any_of HT_.out (by kernel_rfl)) (fun _ _ _ h => h) (Or.inl ⟨by rfl, ?_⟩) ?_ ?_
  rotate_left
  · intro w'
    go_simp
    first | done | with_reducible rfl
  rotate_left
  · simp only [Act.put, List.setIfInBounds_toArray, List.set_cons_zero, List.set_cons_succ, i64_w, i32_w]
    rfl
  refine pure_ (i := 11) (N := (some 4)) (v := ?_) (a' := ?_) #[true, true, true, true, true, true, true, true, true, true, true, true] rfl rfl (any_of HT_.out (by kernel_rfl)) (fun _ _ _ h => h) (Or.inl ⟨by rfl, ?_⟩) ?_ ?_
  rotate_left
  · intro w'
    go_simp
    first | done | with_reducible rfl
  rotate_left
  · simp only [Act.put, List.setIfInBounds_toArray, List.set_cons_zero, List.set_cons_succ, i64_w, i32_w]
    rfl
  refine done_ (done_of HT_.out (by kernel_rfl)) ?_
  clear hHeld HT_ HW_ HMB NLB
  obtain ⟨hc0, hc1⟩ := two HBX.out
  obtain ⟨w4, hw4⟩ : ∃ w4, z34 = w4 := ⟨_, rfl⟩
  rw [hw4] at HH hc0 hc1 HBL ⊢
  clear hw4
  have HH2 : Aside0 (Hd w4 base S g aw2) := HH
  clear HH
  go_wp2_with fail
  refine (readH HH2.out 1 0 (by rw [aw_x]; decide)).mono ?_
  rintro ev w5 ⟨v, rfl, hR, hh5, hn5⟩
  have HBL5 := Aside0.mk (HBL.out.trans (hn5.bel.mono HBS.out))
  rw [aw_x] at hR
  rw [aw_e]
  have hnew5 : ∀ k, k < w4.heap.size ∨ w4.heap.size ≤ k := fun k => by omega
  obtain ⟨A5, c5, rfl, -, hC5⟩ := Kd.R_reads hR
  have HR5 := Aside0.mk (Kd.R_bound hR)
  have HS5 : Aside0 (∀ k, S k → k < w4.heap.size) := ⟨HH2.out.lt⟩
  have HH5 : Aside0 (Hd w5 base S g aw3) := ⟨hh5⟩
  clear hR hn5 hh5 hC5 HH2 hc0 hc1 HBX NBX
  go_wp2_with fail
  refine (eraseH HH5.out 1).mono ?_
  rintro ev w6 ⟨rfl, hh6, hn6⟩
  rw [aw_f]
  have HBL6 := Aside0.mk (HBL5.out.trans (hn6.bel.mono HBS.out))
  have hR6 := hn6.R HR5.out (fun k hk hs => by have := HS5.out k hs; have := hk.2.1; omega)
  obtain ⟨A6, c6, hv6, -, hC6⟩ := Kd.R_reads hR6
  cases hv6
  have HC6 := Aside0.mk hC6
  have HH6 : Aside0 (Hd w6 base S g aw4) := ⟨hh6⟩
  have hcv := conv22 (W := w6) (c := c5) hC6 str_xy
  clear hR6 hC6 hh6 hn6 hnew5
  go_wp2_with fail
  clear hcv
  refine (blockH HH6.out 1 (by rw [aw_1]; decide)).mono ?_
  rintro ev w7 ⟨v, rfl, ⟨pv, rfl, A7, c7, rfl, -, -⟩, hh7, hb7⟩
  rw [aw_c]
  have HH7 := Aside0.mk hh7
  have HBL7 := Aside0.mk (below_step HBL6.out hb7)
  have hf2 := field2
  have hf0 := field0
  clear hh7 hb7
  go_wp2_with fail
  refine (blockH HH7.out 2 (by rw [aw_2]; decide)).mono ?_
  rintro ev w8 ⟨v, rfl, ⟨pv8, rfl, A8, c8, rfl, -, -⟩, hh8, hb8⟩
  rw [aw_d]
  have HH8 := Aside0.mk hh8
  have HBL8 := Aside0.mk (below_step HBL7.out hb8)
  clear hh8 hb8
  go_wp2_with fail
  refine (eraseH HH8.out 2).mono ?_
  rintro ev w9 ⟨rfl, -, hn9⟩
  rw [aw_g]
  have HBL9 := Aside0.mk (HBL8.out.trans (hn9.bel.mono HBS.out))
  clear hn9
  go_wp2_with fail
  go_ret
  exact ⟨rfl, HBL9.out⟩
end Go.Proofs.Ytloldgiggnhemaa.Cm
