import Derived.Test.YtloldgiggnhemaaRe
set_option linter.unusedVariables false
set_option linter.unusedSimpArgs false
/-! The reference's NewChip. -/
namespace Go.Proofs.Ytloldgiggnhemaa.Cm
open Go.RowKit Go.Proofs.YtloldgiggnhemaaW.PrintWords Go.Proofs.YtloldgiggnhemaaW.PrintLast Go.Proofs.YtloldgiggnhemaaW.PrintMore Go.Proofs.Ytloldgiggnhemaa.Kp Go.Proofs.Ytloldgiggnhemaa.Cp
attribute [local go_sem] max2_int min2_int max_two min_two max_three min_three max_four min_four

def nrCells (v : Value) (p : Nat) : Array Value := #[v, .int .i64 (p : Int), .int .i64 0, .int .i64 0, .int .i64 0, .int .i64 0, .bool false, .int .i64 0, .int .i64 0, .int .i64 0]
/-- NewChip's round: so many blocks are there. -/
structure NrI (W : World) (g base p k : Nat) (u v : Value) (pgl : List Nat) : Prop where
  len : pgl.length = k
  chip : W.heap[g]? = some (.cells (nrCells u p) 58 (0, 0))
  row : W.ownsRow base 36 4 v k (rowsN [] p (List.replicate k 0) pgl)
  pgs : ∀ i (hi : i < pgl.length), base ≤ pgl[i] ∧ W.heap[pgl[i]]? = some (.cells (madeCells #[.slice none 0 0] p) 22 (0, 0))
  nodup : pgl.Nodup
section
variable {X Y : World} {g base p k : Nat} {u v : Value} {pgl : List Nat}
theorem NrI.alloc (h : NrI X g base p k u v pgl) (o : Obj) : NrI (X.alloc o) g base p k u v pgl :=
  ⟨h.len, blk_alloc h.chip _, h.row.alloc _, fun i hi => ⟨(h.pgs i hi).1, blk_alloc (h.pgs i hi).2 _⟩, h.nodup⟩
theorem NrI.drew (h : NrI X g base p k u v pgl) : NrI X.drew g base p k u v pgl := ⟨h.len, h.chip, own_drew h.row, h.pgs, h.nodup⟩
theorem NrI.app (h : NrI X g base p k u v pgl) {q : Nat} (hq : X.heap[q]? = some (.cells (madeCells #[.slice none 0 0] p) 22 (0, 0))) (hqb : base ≤ q) (hqn : q ∉ pgl) (hg : X.grownBy Y v.ownBlock) {v' : Value}
    (ho : Y.ownsRow base 36 4 v' (k + 1) (rowsN [] p (List.replicate k 0) pgl ++ rowN [] p 0 q)) : NrI Y g base p (k + 1) u v' (pgl ++ [q]) := by
  refine ⟨by simp [h.len], keepT h.row hg h.chip (by decide), ?_, fun i hi => ?_, ?_⟩
  · rw [List.replicate_succ', rowsN_snoc _ _ _ _ _ _ (by simp [h.len])]
    exact ho
  · by_cases e : i < pgl.length
    · rw [List.getElem_append_left e]
      exact ⟨(h.pgs i e).1, keepT h.row hg (h.pgs i e).2 (by decide)⟩
    · have : i = pgl.length := by simp at hi; omega
      subst this
      rw [List.getElem_append_right (Nat.le_refl _)]
      simp only [Nat.sub_self, List.getElem_cons_zero]
      exact ⟨hqb, keepT h.row hg hq (by decide)⟩
  · rw [List.nodup_append]
    exact ⟨h.nodup, by simp, fun a ha b hb => by simp at hb; rintro rfl; exact hqn (hb ▸ ha)⟩
theorem NrI.store (h : NrI X g base p k u v pgl) : NrI (X.setCell ⟨g, 0, none⟩ v) g base p k v v pgl := by
  refine ⟨h.len, blk_put h.chip 0 _ rfl, h.row.kept (grownBy_setCell' X g v) ?_, fun i hi => ⟨(h.pgs i hi).1, blk_far (h.pgs i hi).2 (p := ⟨g, 0, none⟩) (type_ne (h.pgs i hi).2 h.chip (by decide)) _⟩, h.nodup⟩
  rcases h.row.2 with ⟨rfl, _⟩ | ⟨q, cap, cur, rfl, _, hgb, _⟩
  · exact .inl rfl
  · refine .inr fun e' => ?_
    have e2 : q = g := by first | (simpa [Value.ownBlock] using e') | (simpa [Value.ownBlock] using e'.symm)
    subst e2
    have hc := h.chip
    rw [hgb] at hc
    injection hc with hc
    injection hc with _ hc
    exact absurd hc (by decide)
end
theorem own_shape {W : World} {base k : Nat} {v : Value} {xs : List Value} (h : W.ownsRow base 36 4 v k xs) : ∃ A n c, v = .slice A n c := by
  rcases h.2 with ⟨rfl, _⟩ | ⟨q, cap, cur, rfl, _⟩
  · exact ⟨_, _, _, rfl⟩
  · exact ⟨_, _, _, rfl⟩
def newR (n p : Nat) (bad : List Int) : Chp := ⟨(List.range n).map (fun i : Nat => ⟨bad.contains (i : Int), 0, 0, List.replicate p []⟩), p, 0, 0, 0, 0, 0, 0, 0, false⟩
theorem newR_len (n p : Nat) (bad : List Int) : (newR n p bad).blocks.length = n := by simp [newR]
theorem newR_get (n p : Nat) (bad : List Int) (i : Nat) (B : Blk) (h : (newR n p bad).blocks[i]? = some B) : i < n ∧ B = ⟨bad.contains (i : Int), 0, 0, List.replicate p []⟩ := by
  simp only [newR, List.getElem?_map] at h
  obtain ⟨a, h1, rfl⟩ := Option.map_eq_some_iff.1 h
  have hi : i < n := by
    rcases Nat.lt_or_ge i n with hi | hi
    · exact hi
    · rw [List.getElem?_eq_none (by simpa using hi)] at h1
      cases h1
  rw [List.getElem?_range hi] at h1
  cases h1
  exact ⟨hi, rfl⟩
theorem newR_inv (n p : Nat) (bad : List Int) (hn2 : n ≤ 64) (hp1 : 1 ≤ p) (hp2 : p ≤ 32) : (newR n p bad).RInv := by
  refine { toInv := ?_, f0 := Int.le_refl _, w0 := Int.le_refl _, c0 := Int.le_refl _ }
  refine ⟨?_, ?_, by rw [newR_len]; exact hn2, ?_, ?_, ?_, ?_, ?_, ?_, ?_, ?_, fun B hB => ?_⟩
  all_goals first | (simp only [newR]; omega) | skip
  obtain ⟨i, hi⟩ := List.getElem?_of_mem hB
  obtain ⟨-, rfl⟩ := newR_get _ _ _ _ _ hi
  simp [newR]
theorem NrI.rep {W : World} {g base p n : Nat} {v : Value} {pgl : List Nat} (h : NrI W g base p n v v pgl) (hg : base ≤ g) (hn1 : 1 ≤ n) (hn2 : n ≤ 64) (hp1 : 1 ≤ p) (hp2 : p ≤ 32) : IsRef W base (fun k => base ≤ k) g (newR n p []) := by
  obtain ⟨hpl, hch, hrow, hpg, hnd⟩ := h
  obtain ⟨hlen, ⟨-, h0⟩ | ⟨h, cap, cur, rfl, hbh, hh, hnc, -, hsz, hx⟩⟩ := hrow
  · omega
  have hbl := newR_len n p []
  have hcell : ∀ i, i < n → ∀ j, j < 4 → ∀ (hi : i < pgl.length), cur[i * 4 + j]? = (rowN [] p 0 pgl[i])[j]? := fun i hi j hj hi' => by
    have h1 := rowsN_get [] p (List.replicate n 0) pgl i hi' (by simpa using hi) j hj
    rw [List.getElem_replicate, ← hx, List.getElem?_take, if_pos (by omega)] at h1
    rw [← h1]
    simp
  refine ⟨h, cap, cur, fun i => pgl.getD i 0, ?_⟩
  exact {
    okb := fun k hk => hk
    okg := hg
    okh := hbh
    okp := fun i hi => by
      rw [hbl, ← hpl] at hi
      show base ≤ pgl.getD i 0
      rw [List.getD_eq_getElem?_getD, List.getElem?_eq_getElem hi]
      exact (hpg i hi).1
    hg := by rw [hch]; simp [Chp.rcells, nrCells, hbl]; simp [newR]
    hh := hh
    le := by rw [hbl]; exact hnc
    row := fun i B hB => by
      obtain ⟨hi, rfl⟩ := newR_get _ _ _ _ _ hB
      have hi' : i < pgl.length := by omega
      have e : pgl.getD i 0 = pgl[i] := by rw [List.getD_eq_getElem?_getD, List.getElem?_eq_getElem hi']; rfl
      refine ⟨?_, ?_, ?_, ?_⟩
      · have := hcell i hi 0 (by decide) hi'
        rw [Nat.add_zero] at this
        rw [this]
        simp [rowN]
      · rw [hcell i hi 1 (by decide) hi']
        rfl
      · rw [hcell i hi 2 (by decide) hi']
        rfl
      · rw [hcell i hi 3 (by decide) hi', e]
        simp [rowN]
    pgs := fun i B hB => by
      obtain ⟨hi, rfl⟩ := newR_get _ _ _ _ _ hB
      have hi' : i < pgl.length := by omega
      have e : pgl.getD i 0 = pgl[i] := by rw [List.getD_eq_getElem?_getD, List.getElem?_eq_getElem hi']; rfl
      refine ⟨madeCells #[.slice none 0 0] p, by rw [e]; exact (hpg i hi').2, fun j xs hj => ⟨.slice none 0 0, ?_, ?_⟩⟩
      · rw [List.getElem?_replicate] at hj
        split at hj
        · rename_i hjp
          have hm : (madeCells #[(.slice none 0 0 : Value)] p).toList[j]? = some (.slice none 0 0) := by rw [toList_madeCells_one, List.getElem?_replicate, if_pos hjp]
          simpa using hm
        · cases hj
      · rw [List.getElem?_replicate] at hj
        split at hj
        · cases hj
          exact Kd.R_nil _ _ _ _ _
        · cases hj
    inj := fun i j hi hj he => by
      rw [hbl, ← hpl] at hi hj
      simp only [List.getD_eq_getElem?_getD, List.getElem?_eq_getElem hi, List.getElem?_eq_getElem hj, Option.getD_some] at he
      rcases Nat.lt_trichotomy i j with hij | hij | hij
      · exact absurd he (List.pairwise_iff_getElem.1 hnd i j hi hj hij)
      · exact hij
      · exact absurd he.symm (List.pairwise_iff_getElem.1 hnd j i hj hi hij)
    inv := newR_inv n p [] hn2 hp1 hp2 }
theorem contains_take (bad : List Int) (j : Nat) (hj : j < bad.length) (x : Int) : (bad.take (j + 1)).contains x = ((bad.take j).contains x || x == bad[j]) := by
  rw [List.take_succ_eq_append_getElem hj, Bool.eq_iff_iff]
  simp only [List.contains_eq_mem, decide_eq_true_eq, List.mem_append, List.mem_singleton, Bool.or_eq_true, beq_iff_eq]
theorem newR_bad (n p : Nat) (bad : List Int) (j i : Nat) (hj : j < bad.length) (hb : bad[j] = (i : Int)) : (newR n p (bad.take j)).mod i badB = newR n p (bad.take (j + 1)) := by
  simp only [Chp.mod, newR]
  congr 1
  apply List.ext_getElem?
  intro q
  simp only [List.getElem?_modify, List.getElem?_map]
  by_cases hq : q < n
  · rw [List.getElem?_range hq]
    simp only [Option.map_some, contains_take bad j hj, hb]
    by_cases e : i = q
    · subst e
      simp [badB]
    · have : ((q : Int) == (i : Int)) = false := beq_eq_false_iff_ne.2 (by omega)
      simp [e, this]
  · rw [List.getElem?_eq_none (by simpa using hq)]
    simp
theorem newR_far (n p : Nat) (bad : List Int) (j : Nat) (hj : j < bad.length) (hb : ¬ (0 ≤ bad[j] ∧ bad[j] < n)) : newR n p (bad.take j) = newR n p (bad.take (j + 1)) := by
  simp only [newR]
  congr 1
  apply List.map_congr_left
  intro q hq
  rw [List.mem_range] at hq
  rw [contains_take bad j hj]
  have : ((q : Int) == bad[j]) = false := beq_eq_false_iff_ne.2 (by omega)
  rw [this, Bool.or_false]
theorem badAt {W : World} {A : Option Addr} {xs : List Int} (h : Kd.C (Kd.int .i64) W A xs.length xs) (j : Nat) (hj : j < xs.length) : ∃ ad, A = some ad ∧ W.cell? (ad.add j) = some (.int .i64 xs[j]) := by
  obtain ⟨ad, c, e, _, hK, hc⟩ := Kd.C_get h (0 : Int) (j : Int) (by omega) (by omega)
  have hc' : c = [.int .i64 (xs.getD j 0)] := hK
  subst hc'
  refine ⟨ad, e, ?_⟩
  have h0 : W.cell? (ad.add (j * 1 + 0)) = some (.int .i64 (xs.getD j 0)) := hc 0 _ rfl
  have e1 : xs.getD j 0 = xs[j] := by rw [List.getD_eq_getElem?_getD, List.getElem?_eq_getElem hj]; rfl
  rw [e1, Nat.mul_one, Nat.add_zero] at h0
  exact h0
theorem nrHeld {W w' : World} {g base p k : Nat} {u v : Value} {pgl : List Nat} (h : NrI W g base p k u v pgl) (hb : Below W.heap.size W w') : w'.cell? ⟨g, 0, none⟩ = some u := pw_cell_below hb ((blk_cell h.chip 0).trans rfl)
def reg_rnew_6.T : Bool × List (List Nat × List Nat) := (true, [([], []), ([], []), ([1], [1]), ([2], [2]), ([3], [3]), ([], []), ([5, 5], [5]), ([6], [6]), ([7], [7]), ([4, 8], [4, 8]), ([0, 0, 1, 2, 3, 4, 5, 6, 7, 8, 9], [0]), ([10, 0, 1, 2, 3, 4, 5, 6, 7, 8, 9], [10]), ([11, 9, 9, 0, 1, 2, 3, 4, 5, 6, 7, 8, 9], [9, 11])])
def reg_rnew_6.B : List Nat := [0, 0, 2, 6, 14, 0, 32, 96, 224, 510, 1023, 2047, 4095]
theorem reg_rnew_6.tab : rtab .any (opsOf Try.f24 6) = reg_rnew_6.T := by kernel_rfl
theorem reg_rnew_6.bits : waitsOk reg_rnew_6.T.2 reg_rnew_6.B = true := by kernel_rfl
set_option maxHeartbeats 8000000 in
set_option maxRecDepth 100000 in
theorem rnew (w : World) (n p : Nat) (A : Option Addr) (c : Nat) (bad : List Int) (hC : Kd.C (Kd.int .i64) w A bad.length bad) (hl : bad.length ≤ 100000) (hn1 : 1 ≤ n) (hn2 : n ≤ 64) (hp1 : 1 ≤ p) (hp2 : p ≤ 32) :
    Calls Try.prog 24 #[.int .i64 (n : Int), .int .i64 (p : Int), .slice A bad.length c] w fun e w' => ∃ g, e = .returned (.pointer (some ⟨g, 0, none⟩)) ∧ IsRef w' w.heap.size (fun k => w.heap.size ≤ k) g (newR n p bad) ∧ Below w.heap.size w w' := by
  have t1 : ¬ ((n : Int) < 1) := by omega
  have t2 : ¬ ((n : Int) > 64) := by omega
  have t3 : ¬ ((p : Int) < 1) := by omega
  have t4 : ¬ ((p : Int) > 32) := by omega
  have HC := Aside0.mk hC
  have HL := Aside0.mk hl
  have HN := Aside0.mk (show 1 ≤ n ∧ n ≤ 64 ∧ 1 ≤ p ∧ p ≤ 32 from ⟨hn1, hn2, hp1, hp2⟩)
  have hmk := print_make_of 34 22 (.slice none 0 0) 24 Try.underlying34 infoY rfl (by decide) p (by omega)
  clear hC hl hn1 hn2 hp1 hp2
  go_enter Try.func24, Try.ntmps24
  go_upto_region 4 with fail
  clear t1 t2 t3 t4
  obtain ⟨w1, hw1⟩ : ∃ w1, w.alloc (.cells #[.slice none 0 0, .int .i64 (p : Int), .int .i64 0, .int .i64 0, .int .i64 0, .int .i64 0, .bool false, .int .i64 0, .int .i64 0, .int .i64 0] 58) = w1 := ⟨_, rfl⟩
  obtain ⟨g, hg⟩ : ∃ x, w.heap.size = x := ⟨_, rfl⟩
  have hB1 : Below w.heap.size w w1 := by rw [← hw1]; exact below_alloc (Below.refl _ _) _
  have hg1 : w1.heap[g]? = some (.cells (nrCells (.slice none 0 0) p) 58 (0, 0)) := by rw [← hw1, ← hg]; exact blk_new w _
  have HB1 := Aside0.mk hB1
  have HG := Aside0.mk hg
  have HI1 : Aside0 (NrI w1 g w.heap.size p 0 (.slice none 0 0) (.slice none 0 0) []) := ⟨⟨rfl, hg1, own_nil _ _ _ _, fun i hi => absurd hi (by simp), List.nodup_nil⟩⟩
  rw [hw1, hg]
  clear hw1 hg hB1 hg1
  go_wp2_with fail
  go_loopw [28] (fun v28 wr => ∃ (k : Nat) (v : Value) (pgl : List Nat), k ≤ n ∧ v28 = .int .i64 (k : Int) ∧ Aside0 (NrI wr g w.heap.size p k v v pgl) ∧ Aside0 (Below w.heap.size w wr)) (fun v28 _ => n - (intOf v28).toNat)
  case atStart => exact ⟨0, _, _, Nat.zero_le _, rfl, HI1, HB1⟩
  case round =>
    clear HI1 HB1
    obtain ⟨k, v, pgl, hk, rfl, HI, HB⟩ := hrel
    by_cases hlt : k < n
    · have hlt2 : (k : Int) < (n : Int) := by omega
      have HLT := Aside0.mk hlt
      have hw3 : wrap64 ((k : Int) + 1) = ((k + 1 : Nat) : Int) := by rw [show (k : Int) + 1 = ((k + 1 : Nat) : Int) by omega]; exact rwrap (by omega) (by have := HN.out; omega)
      have HW3 := Aside0.mk hw3
      clear hk hlt hw3
      go_upto_region 6 with fail
      refine start_ (n := 13) (S := fun w' => w'.cell? ⟨g, 0, none⟩ = some v) (ds := [12]) #[false, false, false, false, false, false, false, false, false, false, false, false, false] (by kernel_rfl) rfl rfl (nrHeld HI.out (below_drew (Below.refl _ _))) (fun hHeld => ?_)
      refine with_tabW reg_rnew_6.tab reg_rnew_6.bits (fun HT_ HW_ => ?_)
      obtain ⟨wd, hwd⟩ : ∃ wd, wr.drew = wd := ⟨_, rfl⟩
      have HI2 : Aside0 (NrI wd g w.heap.size p k v v pgl) := ⟨by rw [← hwd]; exact HI.out.drew⟩
      have HB2 : Aside0 (Below w.heap.size w wd) := ⟨by rw [← hwd]; exact below_drew HB.out⟩
      rw [hwd] at hHeld ⊢
      clear hwd HI HB
      refine pure_ (i := 0) (N := (some 30)) (v := ?_) (a' := ?_) #[true, false, false, false, false, false, false, false, false, false, false, false, false] rfl rfl (any_of HT_.out (by kernel_rfl)) (fun _ _ _ h => h) (Or.inl ⟨by rfl, ?_⟩) ?_ ?_
      rotate_left
      · intro w'
        go_simp
        first | done | with_reducible rfl
      rotate_left
      · simp only [Act.put, List.setIfInBounds_toArray, List.set_cons_zero, List.set_cons_succ, i64_w, i32_w]
        rfl
      refine pure_ (i := 1) (N := (some 31)) (v := ?_) (a' := ?_) #[true, true, false, false, false, false, false, false, false, false, false, false, false] rfl rfl (any_of HT_.out (by kernel_rfl)) (fun _ _ _ h => h) (Or.inl ⟨by rfl, ?_⟩) ?_ ?_
      rotate_left
      · intro w'
        go_simp
        first | done | with_reducible rfl
      rotate_left
      · simp only [Act.put, List.setIfInBounds_toArray, List.set_cons_zero, List.set_cons_succ, i64_w, i32_w]
        rfl
      refine pure_ (i := 2) (N := (some 32)) (v := ?_) (a' := ?_) #[true, true, true, false, false, false, false, false, false, false, false, false, false] rfl rfl (any_of HT_.out (by kernel_rfl)) (fun _ _ _ h => h) (Or.inl ⟨by rfl, ?_⟩) ?_ ?_
      rotate_left
      · intro w'
        go_simp
        first | done | with_reducible rfl
      rotate_left
      · simp only [Act.put, List.setIfInBounds_toArray, List.set_cons_zero, List.set_cons_succ, i64_w, i32_w]
        rfl
      refine pure_ (i := 3) (N := (some 33)) (v := ?_) (a' := ?_) #[true, true, true, true, false, false, false, false, false, false, false, false, false] rfl rfl (any_of HT_.out (by kernel_rfl)) (fun _ _ _ h => h) (Or.inl ⟨by rfl, ?_⟩) ?_ ?_
      rotate_left
      · intro w'
        go_simp
        first | done | with_reducible rfl
      rotate_left
      · simp only [Act.put, List.setIfInBounds_toArray, List.set_cons_zero, List.set_cons_succ, i64_w, i32_w]
        rfl
      refine take_ (i := 4) (N := (some 34)) (v := ?_) (a' := ?_) #[true, true, true, true, true, false, false, false, false, false, false, false, false] rfl rfl (take_ofW HT_.out HW_.out (by kernel_rfl)) (fun _ _ _ h => h) (Or.inl ⟨by rfl, ?_⟩) hHeld ?_ ?_
      rotate_left
      · rintro w' s0
        go_simp
        first | done | with_reducible rfl
      rotate_left
      · simp only [Act.put, List.setIfInBounds_toArray, List.set_cons_zero, List.set_cons_succ, i64_w, i32_w]
        rfl
      refine pure_ (i := 5) (N := (some 35)) (v := ?_) (a' := ?_) #[true, true, true, true, true, true, false, false, false, false, false, false, false] rfl rfl (any_of HT_.out (by kernel_rfl)) (fun _ _ _ h => h) (Or.inl ⟨by rfl, ?_⟩) ?_ ?_
      rotate_left
      · intro w'
        go_simp
        first | done | with_reducible rfl
      rotate_left
      · simp only [Act.put, List.setIfInBounds_toArray, List.set_cons_zero, List.set_cons_succ, i64_w, i32_w]
        rfl
      refine one_ (i := 6) (N := (some 36)) #[true, true, true, true, true, true, true, false, false, false, false, false, false] rfl rfl (one_of HT_.out (by kernel_rfl)) (by decide) (fun K hK => ?_)
      have HI3 := Aside0.mk (HI2.out.alloc (.cells (madeCells #[.slice none 0 0] p) 22))
      have HB3 := Aside0.mk (below_alloc HB2.out (.cells (madeCells #[.slice none 0 0] p) 22))
      have HQ3 : Aside0 ((wd.alloc (.cells (madeCells #[.slice none 0 0] p) 22)).heap[wd.heap.size]? = some (.cells (madeCells #[.slice none 0 0] p) 22 (0, 0))) := ⟨blk_new _ _⟩
      have HQN : Aside0 (wd.heap.size ∉ pgl) := ⟨fun hm => by obtain ⟨i, hi, he⟩ := List.getElem_of_mem hm; have := (Array.getElem?_eq_some_iff.1 (HI2.out.pgs i hi).2).1; omega⟩
      go_simp
      obtain ⟨q, hq⟩ : ∃ x, wd.heap.size = x := ⟨_, rfl⟩
      obtain ⟨X1, hX1⟩ : ∃ Y, wd.alloc (.cells (madeCells #[.slice none 0 0] p) 22) = Y := ⟨_, rfl⟩
      have HQB : Aside0 (w.heap.size ≤ q) := ⟨by rw [← hq]; exact HB2.out.size⟩
      rw [hX1] at HI3 HB3 HQ3 ⊢
      rw [hq] at HQ3 HQN ⊢
      clear hX1 hq
      refine hK.out _ _ (nrHeld HI3.out (Below.refl _ _)) (fun hHeld => ?_)
      clear hK K
      refine pure_ (i := 7) (N := (some 37)) (v := ?_) (a' := ?_) #[true, true, true, true, true, true, true, true, false, false, false, false, false] rfl rfl (any_of HT_.out (by kernel_rfl)) (fun _ _ _ h => h) (Or.inl ⟨by rfl, ?_⟩) ?_ ?_
      rotate_left
      · intro w'
        go_simp
        first | done | with_reducible rfl
      rotate_left
      · simp only [Act.put, List.setIfInBounds_toArray, List.set_cons_zero, List.set_cons_succ, i64_w, i32_w]
        rfl
      refine one_ (i := 8) (N := (some 38)) #[true, true, true, true, true, true, true, true, true, false, false, false, false] rfl rfl (one_of HT_.out (by kernel_rfl)) (by decide) (fun K hK => ?_)
      have HI4 := Aside0.mk (HI3.out.alloc (.cells #[.bool false, .int .i64 0, .int .i64 0, .slice (some ⟨q, 0, none⟩) p p] 36))
      go_simp
      refine hK.out _ _ (nrHeld HI4.out (Below.refl _ _)) (fun hHeld => ?_)
      clear hK K
      refine one_ (i := 9) (N := (some 39)) #[true, true, true, true, true, true, true, true, true, true, false, false, false] rfl rfl (one_of HT_.out (by kernel_rfl)) (by decide) (fun K hK => ?_)
      refine step_append_cells (w0 := w) (W := X1) w.heap.size (by rfl) (.tmp 34) (.tmp 38) 56 36 (.agg #[.bool false, .int .i64 0, .int .i64 0, .slice none 0 0]) 4 48 rfl Try.underlying56 infoB rfl (by decide) (by decide) v k _ [.bool false, .int .i64 0, .int .i64 0, .slice (some ⟨q, 0, none⟩) p p] rfl rfl rfl (by simp [Value.oneCell']) HI3.out.row HB3.out HB3.out.size (by have := HN.out; have := HLT.out; omega) ?_
      intro v5 w5 hown hb hg hat
      obtain ⟨A5, n5, c5, rfl⟩ := own_shape hown
      have HI5a := Aside0.mk (HI3.out.app HQ3.out HQB.out HQN.out hg hown)
      have HB5a := Aside0.mk hb
      clear hown hb hg hat
      refine hK.out _ _ (nrHeld HI5a.out (Below.refl _ _)) (fun hHeld => ?_)
      clear hK K
      refine norm_ (a' := ?_) ?_ ?_
      rotate_left
      · show Act.put _ (some 39) _ = _
        simp only [Act.put, List.setIfInBounds_toArray, List.set_cons_zero, List.set_cons_succ, i64_w, i32_w]
        rfl
      refine pure_ (i := 10) (N := (some 40)) (v := ?_) (a' := ?_) #[true, true, true, true, true, true, true, true, true, true, true, false, false] rfl rfl (any_of HT_.out (by kernel_rfl)) (fun _ _ _ h => h) (Or.inl ⟨by rfl, ?_⟩) ?_ ?_
      rotate_left
      · intro w'
        go_simp
        first | done | with_reducible rfl
      rotate_left
      · simp only [Act.put, List.setIfInBounds_toArray, List.set_cons_zero, List.set_cons_succ, i64_w, i32_w]
        rfl
      refine pure_ (i := 11) (N := (some 41)) (v := ?_) (a' := ?_) #[true, true, true, true, true, true, true, true, true, true, true, true, false] rfl rfl (any_of HT_.out (by kernel_rfl)) (fun _ _ _ h => h) (Or.inl ⟨by rfl, ?_⟩) ?_ ?_
      rotate_left
      · intro w'
        go_simp
        first | done | with_reducible rfl
      rotate_left
      · simp only [Act.put, List.setIfInBounds_toArray, List.set_cons_zero, List.set_cons_succ, i64_w, i32_w]
        rfl
      refine last_ (i := 12) (N := none) #[true, true, true, true, true, true, true, true, true, true, true, true, true] rfl rfl (one_of HT_.out (by kernel_rfl)) (by decide) (fun K hK => ?_)
      have cG := (blk_cell HI5a.out.chip 0).trans (show (nrCells v p)[0]? = some v from rfl)
      have fG : w5.frozen? ⟨g, 0, none⟩ = false := blk_frozen HI5a.out.chip 0
      go_simp
      clear cG fG
      have HI5 := Aside0.mk HI5a.out.store
      have HB5 : Aside0 (Below w.heap.size w (w5.setCell ⟨g, 0, none⟩ (.slice A5 n5 c5))) := ⟨HB5a.out.setCell (p := ⟨g, 0, none⟩) (by rw [HG.out]; exact Nat.le_refl _) _⟩
      refine hK.out _ _ ?_
      clear hK K
      refine done_ (done_of HT_.out (by kernel_rfl)) ?_
      have hw3 := HW3.out
      clear hHeld HT_ HW_
      go_wp2_with fail
      go_roundw
      case measure =>
        have hm : n - ((k + 1 : Nat) : Int).toNat < n - ((k : Nat) : Int).toNat := by
          rw [Int.toNat_natCast, Int.toNat_natCast]
          exact Nat.sub_lt_sub_left HLT.out (Nat.lt_succ_self k)
        first | exact hm | (rw [hw3]; exact hm)
      case rel => exact ⟨k + 1, _, _, HLT.out, by first | rw [hw3] | rfl, HI5, HB5⟩
    · have he : k = n := by omega
      subst he
      have hnn : ¬ (((k : Nat) : Int) < (k : Int)) := by omega
      clear hlt hk hmk
      have HRF := Aside0.mk (HI.out.rep (by rw [HG.out]; exact Nat.le_refl _) HN.out.1 HN.out.2.1 HN.out.2.2.1 HN.out.2.2.2)
      go_wp2_with fail
      clear hnn HI
      obtain ⟨h, cap, cs, pg, r⟩ := HRF.out
      have HR0 := Aside0.mk r
      clear r HRF
      go_loopw [45] (fun v45 wx => ∃ (j : Nat) (cs : Array Value), j ≤ bad.length ∧ v45 = .int .i64 (j : Int) ∧ Aside0 (RRep wx w.heap.size (fun k => w.heap.size ≤ k) g h cap cs pg (newR k p (bad.take j))) ∧ Aside0 (Below w.heap.size w wx)) (fun v45 _ => bad.length - (intOf v45).toNat)
      case atStart => exact ⟨0, cs, Nat.zero_le _, rfl, HR0, HB⟩
      case round =>
        clear HR0 HB
        obtain ⟨j, cs2, hj, rfl, HR, HB⟩ := hrel
        by_cases hlt : j < bad.length
        · have hlt2 : (j : Int) < (bad.length : Int) := by omega
          have HJT := Aside0.mk hlt
          have hw3 : wrap64 ((j : Int) + 1) = ((j + 1 : Nat) : Int) := by rw [show (j : Int) + 1 = ((j + 1 : Nat) : Int) by omega]; exact rwrap (by omega) (by have := HL.out; omega)
          obtain ⟨ad, rfl, hx⟩ := badAt (Kd.C_below HC.out HB.out) j hlt
          obtain ⟨x, hxe⟩ : ∃ x, bad[j] = x := ⟨_, rfl⟩
          rw [hxe] at hx
          have HXE := Aside0.mk hxe
          clear hxe hj
          by_cases hin : 0 ≤ x ∧ x < k
          · obtain ⟨i, rfl⟩ : ∃ i : Nat, x = i := ⟨x.toNat, by omega⟩
            have d1 : decide ((i : Int) ≥ 0) = true := decide_eq_true hin.1
            have hik : (i : Int) < (k : Int) := hin.2
            have HIK := Aside0.mk (show i < (newR k p (bad.take j)).blocks.length by rw [newR_len]; omega)
            have c0 := (rten HR.out).1.1
            have hcell := rrowCells HR.out (List.getElem?_eq_getElem HIK.out)
            have e0 := hcell.1
            have f0 : wr.frozen? ⟨h, i * 4, none⟩ = false := blk_frozen HR.out.hh _
            rw [newR_len] at c0
            clear hcell hin
            go_wp2_with fail
            go_roundw
            case measure =>
              have hm : bad.length - ((j + 1 : Nat) : Int).toNat < bad.length - ((j : Nat) : Int).toNat := by
                rw [Int.toNat_natCast, Int.toNat_natCast]
                exact Nat.sub_lt_sub_left HJT.out (Nat.lt_succ_self j)
              first | exact hm | (rw [hw3]; exact hm)
            case rel =>
              have hst := HR.out.setH i 0 HIK.out (by decide) badB (fun _ => rfl) (.bool true) (fun b hb => by simp [badB]) (fun b hb => by simp [badB]) (fun b hb => by simp [badB])
              rw [newR_bad k p bad j i HJT.out HXE.out] at hst
              exact ⟨j + 1, _, HJT.out, by first | rw [hw3] | rfl, ⟨hst⟩, ⟨HB.out.setCell (p := ⟨h, i * 4, none⟩) (HR.out.okb h HR.out.okh) _⟩⟩
          · have HNI := Aside0.mk hin
            by_cases h0 : 0 ≤ x
            · have d1 : decide (x ≥ 0) = true := decide_eq_true h0
              have d2 : decide (x < (k : Int)) = false := decide_eq_false (fun h1 => hin ⟨h0, h1⟩)
              clear hin h0
              go_wp2_with fail
              go_roundw
              case measure =>
                have hm : bad.length - ((j + 1 : Nat) : Int).toNat < bad.length - ((j : Nat) : Int).toNat := by
                  rw [Int.toNat_natCast, Int.toNat_natCast]
                  exact Nat.sub_lt_sub_left HJT.out (Nat.lt_succ_self j)
                first | exact hm | (rw [hw3]; exact hm)
              case rel => exact ⟨j + 1, _, HJT.out, by first | rw [hw3] | rfl, ⟨by rw [← newR_far k p bad j HJT.out (by rw [HXE.out]; exact HNI.out)]; exact HR.out⟩, HB⟩
            · have d1 : decide (x ≥ 0) = false := decide_eq_false h0
              clear hin h0
              go_wp2_with fail
              go_roundw
              case measure =>
                have hm : bad.length - ((j + 1 : Nat) : Int).toNat < bad.length - ((j : Nat) : Int).toNat := by
                  rw [Int.toNat_natCast, Int.toNat_natCast]
                  exact Nat.sub_lt_sub_left HJT.out (Nat.lt_succ_self j)
                first | exact hm | (rw [hw3]; exact hm)
              case rel => exact ⟨j + 1, _, HJT.out, by first | rw [hw3] | rfl, ⟨by rw [← newR_far k p bad j HJT.out (by rw [HXE.out]; exact HNI.out)]; exact HR.out⟩, HB⟩
        · have he : j = bad.length := by omega
          have hnn : ¬ ((j : Int) < (bad.length : Int)) := by omega
          have HE := Aside0.mk he
          clear hlt hj he
          go_wp2_with fail
          go_ret
          refine ⟨g, rfl, ⟨h, cap, cs2, pg, ?_⟩, HB.out⟩
          have hr := HR.out
          rw [HE.out, List.take_length] at hr
          exact hr
theorem rnewNil (w : World) (b p : Int) (A : Option Addr) (n c : Nat) (hx : ¬ (1 ≤ b ∧ b ≤ 64 ∧ 1 ≤ p ∧ p ≤ 32)) :
    Calls Try.prog 24 #[.int .i64 b, .int .i64 p, .slice A n c] w fun e w' => e = .returned (.pointer none) ∧ Below w.heap.size w w' := by
  have go : ∀ (d1 d2 d3 d4 : Bool), decide (b < 1) = d1 → decide (b > 64) = d2 → decide (p < 1) = d3 → decide (p > 32) = d4 → (d1 || d2 || d3 || d4) = true → Calls Try.prog 24 #[.int .i64 b, .int .i64 p, .slice A n c] w fun e w' => e = .returned (.pointer none) ∧ Below w.heap.size w w' := by
    intro d1 d2 d3 d4 h1 h2 h3 h4 h5
    clear hx
    cases d1 <;> cases d2 <;> cases d3 <;> cases d4 <;> first
      | (exact absurd h5 (by decide))
      | (clear h5; go_enter Try.func24, Try.ntmps24; go_wp2; go_ret; exact ⟨rfl, Below.refl _ _⟩)
  refine go _ _ _ _ rfl rfl rfl rfl ?_
  by_cases h1 : b < 1
  · simp [h1]
  · by_cases h2 : b > 64
    · simp [h2]
    · by_cases h3 : p < 1
      · simp [h3]
      · have h4 : p > 32 := by omega
        simp [h4]
end Go.Proofs.Ytloldgiggnhemaa.Cm
