import Derived.Test.YtloldgiggnhemaaRh
set_option linter.unusedVariables false
set_option linter.unusedSimpArgs false
/-! Pages are short; the chips begin alike. Plain. -/
namespace Go.Proofs.Ytloldgiggnhemaa.Cm
open Go.RowKit Go.Proofs.YtloldgiggnhemaaW.PrintWords Go.Proofs.YtloldgiggnhemaaW.PrintLast Go.Proofs.Ytloldgiggnhemaa.Kp Go.Proofs.Ytloldgiggnhemaa.Cp

def PgB (s : Chp) : Prop := ∀ B ∈ s.blocks, ∀ xs ∈ B.pages, xs.length ≤ 2000
theorem PgB.mod {s : Chp} (h : PgB s) (i : Nat) (f : Blk → Blk) (hf : ∀ b : Blk, (∀ xs ∈ b.pages, xs.length ≤ 2000) → ∀ xs ∈ (f b).pages, xs.length ≤ 2000) : PgB (s.mod i f) := by
  intro B hB
  obtain ⟨j, hj⟩ := List.getElem?_of_mem hB
  rw [mod_get] at hj
  split at hj
  · obtain ⟨b0, h0, rfl⟩ := Option.map_eq_some_iff.1 hj
    exact hf b0 (h b0 (List.mem_of_getElem? h0))
  · exact h B (List.mem_of_getElem? hj)
theorem PgB.of_eq {s s' : Chp} (h : PgB s) (e : s'.blocks = s.blocks) : PgB s' := by
  intro B hB
  rw [e] at hB
  exact h B hB
theorem pageB_ok (j : Nat) (ys : List Int) (hy : ys.length ≤ 2000) (b : Blk) (hb : ∀ xs ∈ b.pages, xs.length ≤ 2000) : ∀ xs ∈ (pageB j ys b).pages, xs.length ≤ 2000 := by
  intro xs hx
  rcases List.mem_or_eq_of_mem_set hx with h | h
  · exact hb xs h
  · rw [h]
    exact hy
theorem clrB_ok (n : Nat) (b : Blk) (hb : ∀ xs ∈ b.pages, xs.length ≤ 2000) : ∀ xs ∈ (clrB n b).pages, xs.length ≤ 2000 := by
  intro xs hx
  obtain ⟨j, hj⟩ := List.getElem?_of_mem hx
  have hj' : (clr 0 n b.pages)[j]? = some xs := hj
  rw [clr_get] at hj'
  split at hj'
  · cases hj'
    exact Nat.zero_le _
  · exact hb xs (List.mem_of_getElem? hj')
theorem take_le (xs : List Int) (n : Nat) (h : xs.length ≤ 2000) : (xs.take n).length ≤ 2000 := by
  rw [List.length_take]
  omega
theorem PgB.prog {s : Chp} (h : PgB s) (b p : Int) (xs : List Int) : PgB (progS s b p xs).1 := by
  unfold progS
  split
  · rename_i hx
    obtain ⟨-, -, hl⟩ := hx
    have hbm : PgB (bump s b.toNat) := (h.mod b.toNat nextB (fun _ hb => hb)).of_eq rfl
    split
    · exact h
    · split
      · exact h
      · split
        · exact h
        · split
          · exact h
          · split
            · exact (hbm.mod _ _ (pageB_ok _ _ (take_le _ _ hl))).of_eq rfl
            · split
              · exact (hbm.mod _ _ (pageB_ok _ _ (take_le _ _ hl))).mod _ _ (fun _ hb => hb)
              · exact hbm.mod _ _ (pageB_ok _ _ hl)
  · exact h
theorem PgB.erase {s : Chp} (h : PgB s) (b : Int) : PgB (eraseS s b).1 := by
  unfold eraseS erS
  have hbm : PgB (ebump s b.toNat) := (h.mod b.toNat countB (fun _ hb => hb)).of_eq rfl
  split
  · split
    · exact h
    · split
      · exact h
      · split
        · exact h
        · split
          · split
            · exact ((hbm.mod b.toNat _ (clrB_ok s.keep.toNat)).mod b.toNat (setN s.pages) (fun _ hb => hb)).of_eq rfl
            · exact ((hbm.mod b.toNat _ (clrB_ok s.pages.toNat)).mod b.toNat (setN 0) (fun _ hb => hb)).of_eq rfl
          · split
            · exact hbm.mod _ _ (fun _ hb => hb)
            · exact (hbm.mod _ _ (clrB_ok _)).mod _ _ (fun _ hb => hb)
  · exact h
theorem PgB.read {s : Chp} (h : PgB s) (b p : Int) : PgB (readS s b p) := by
  unfold readS
  split
  · exact h.of_eq rfl
  · exact h
theorem PgB.new (n p : Nat) (bad : List Int) : PgB (newS n p bad) := by
  intro B hB
  obtain ⟨i, hi⟩ := List.getElem?_of_mem hB
  obtain ⟨-, rfl⟩ := newS_get _ _ _ _ _ hi
  intro xs hx
  rw [List.eq_of_mem_replicate hx]
  exact Nat.zero_le _
theorem PgB.block {s : Chp} (h : PgB s) (b : Int) : ∀ xs ∈ (blockB s b).pages, xs.length ≤ 100000 := by
  intro xs hx
  unfold blockB at hx
  split at hx
  · cases hB : s.blocks[b.toNat]? with
    | none =>
      rw [hB] at hx
      exact absurd hx (by simp [noB])
    | some B =>
      rw [hB] at hx
      have := h B (List.mem_of_getElem? hB) xs hx
      omega
  · exact absurd hx (by simp [noB])
theorem PgB.readX {s : Chp} (h : PgB s) (b p : Int) : (readX s b p).length ≤ 100000 := by
  unfold Cm.readX pageOf
  split
  · cases hB : s.blocks[b.toNat]? with
    | none => simp
    | some B =>
      simp only [Option.map_some, Option.getD_some]
      cases hp : B.pages[p.toNat]? with
      | none => simp
      | some xs =>
        have := h B (List.mem_of_getElem? hB) xs (List.mem_of_getElem? hp)
        simp only [Option.getD_some]
        omega
  · exact Nat.zero_le _
theorem Sim.new' (k n p : Nat) (bad : List Int) : Sim k (newS n p bad) (newR n p bad) := ⟨rfl, rfl, rfl, rfl, rfl, rfl, rfl, Cnt.off k, Cnt.off k, Cnt.off k⟩
theorem PgB.all {s : Chp} (h : PgB s) : ∀ B ∈ s.blocks, ∀ xs ∈ B.pages, xs.length ≤ 100000 := fun B hB xs hx => Nat.le_trans (h B hB xs hx) (by decide)
theorem rprog_len (r : Chp) (b p : Int) (xs : List Int) : (rprogS r b p xs).1.blocks.length = r.blocks.length := by
  unfold rprogS rgoS
  repeat' split
  all_goals simp [rbump, Chp.mod]
theorem rerase_len (r : Chp) (b : Int) : (reraseS r b).1.blocks.length = r.blocks.length := by
  unfold reraseS rerS
  repeat' split
  all_goals simp [rebump, Chp.mod]
theorem read_len (r : Chp) (b p : Int) : (readS r b p).blocks.length = r.blocks.length := by
  unfold readS
  split <;> rfl
/-- A box that holds a call. -/
theorem boxD {W : World} {bx : Nat} {a b c d e : Int} {A : Option Addr} {n m : Nat} (h : W.heap[bx]? = some (.cells #[.int .i64 a, .int .i64 b, .int .i64 c, .int .i64 d, .int .i64 e, .slice A n m] 52 (0, 0))) :
    W.cell? ⟨bx, 0, none⟩ = some (.int .i64 a) ∧ W.cell? ⟨bx, 1, none⟩ = some (.int .i64 b) ∧ W.cell? ⟨bx, 2, none⟩ = some (.int .i64 c) ∧ W.cell? ⟨bx, 3, none⟩ = some (.int .i64 d) ∧ W.cell? ⟨bx, 4, none⟩ = some (.int .i64 e) ∧ W.cell? ⟨bx, 5, none⟩ = some (.slice A n m) :=
  ⟨(blk_cell h 0).trans rfl, (blk_cell h 1).trans rfl, (blk_cell h 2).trans rfl, (blk_cell h 3).trans rfl, (blk_cell h 4).trans rfl, (blk_cell h 5).trans rfl⟩
theorem block_len {s : Chp} (hv : s.Inv) (b : Int) : (blockB s b).pages.length ≤ 100000 := by
  unfold blockB
  split
  · cases hB : s.blocks[b.toNat]? with
    | none => exact Nat.zero_le _
    | some B =>
      have h1 := hv.len B (List.mem_of_getElem? hB)
      have h2 := hv.p2
      simp only [Option.getD_some]
      omega
  · exact Nat.zero_le _
/-- What the tail of a round looks at. -/
theorem five {W W' : World} {a b c d e : Addr} {v1 v2 v3 v4 v5 : Value} (h : W.cell? a = some v1 ∧ W.cell? b = some v2 ∧ W.cell? c = some v3 ∧ W.cell? d = some v4 ∧ W.cell? e = some v5) (hb : Below W.heap.size W W') :
    W'.cell? a = some v1 ∧ W'.cell? b = some v2 ∧ W'.cell? c = some v3 ∧ W'.cell? d = some v4 ∧ W'.cell? e = some v5 := ⟨pw_cell_below hb h.1, pw_cell_below hb h.2.1, pw_cell_below hb h.2.2.1, pw_cell_below hb h.2.2.2.1, pw_cell_below hb h.2.2.2.2⟩
/-- What a call leaves. -/
structure Aft (k : Nat) (s r : Chp) : Prop where
  sim : Sim k s r
  pg : PgB s
theorem Aft.prog {k : Nat} {s r : Chp} (h : Aft (k + 1) s r) (hv : s.Inv) (b p : Int) (xs : List Int) : Aft k (progS s b p xs).1 (rprogS r b p xs).1 := ⟨(h.sim.progS hv b p xs).1, h.pg.prog b p xs⟩
theorem Aft.erase {k : Nat} {s r : Chp} (h : Aft (k + 1) s r) (hv : s.Inv) (b : Int) : Aft k (eraseS s b).1 (reraseS r b).1 := ⟨(h.sim.eraseS hv b).1, h.pg.erase b⟩
theorem Aft.read {k : Nat} {s r : Chp} (h : Aft (k + 1) s r) (b p : Int) : Aft k (readS s b p) (readS r b p) := ⟨(h.sim.readS b p).mono (Nat.le_succ k), h.pg.read b p⟩
theorem Aft.fail {k : Nat} {s r : Chp} (h : Aft (k + 1) s r) (hk : k ≤ 1000) (n : Int) : Aft k (failS s n) (rfailS r n) := ⟨(h.sim.mono (Nat.le_succ k)).failS hk n, h.pg.of_eq rfl⟩
theorem Aft.worn {k : Nat} {s r : Chp} (h : Aft (k + 1) s r) (hk : k ≤ 1000) (n : Int) : Aft k (wornS s n) (rwornS r n) := ⟨(h.sim.mono (Nat.le_succ k)).wornS hk n, h.pg.of_eq rfl⟩
theorem Aft.cut {k : Nat} {s r : Chp} (h : Aft (k + 1) s r) (hk : k ≤ 1000) (n q : Int) : Aft k (cutS s n q) (rcutS r n q) := ⟨(h.sim.mono (Nat.le_succ k)).cutS hk n q, h.pg.of_eq rfl⟩
theorem Aft.power {k : Nat} {s r : Chp} (h : Aft (k + 1) s r) : Aft k (powerS s) (rpowerS r) := ⟨(h.sim.mono (Nat.le_succ k)).powerS, h.pg.of_eq rfl⟩
end Go.Proofs.Ytloldgiggnhemaa.Cm
