import Derived.Test.YtloldgiggnhemaaRe
set_option linter.unusedVariables false
set_option linter.unusedSimpArgs false
/-! The chip and the reference's chip go alike. Plain. -/
namespace Go.Proofs.Ytloldgiggnhemaa.Cm
open Go.RowKit Go.Proofs.Ytloldgiggnhemaa.Kp Go.Proofs.Ytloldgiggnhemaa.Cp

/-- What is waited for, told in two ways; k calls are still to come. -/
def Cnt (k : Nat) (a b : Int) : Prop := (b = a + 1 ∧ -1 ≤ a) ∨ (b = 0 ∧ (k : Int) ≤ a)
theorem Cnt.mono {k k' : Nat} {a b : Int} (h : Cnt k a b) (hk : k' ≤ k) : Cnt k' a b := by
  unfold Cnt at h ⊢
  omega
theorem Cnt.set {n : Int} (k : Nat) (hk : k ≤ 1000) : Cnt k (if n < -1 then -1 else n) (aft n) := by
  unfold Cnt aft
  split <;> split <;> (try split) <;> omega
theorem Cnt.off (k : Nat) : Cnt k (-1) 0 := .inl ⟨by omega, by omega⟩
theorem dec_eq {n : Int} (h1 : -1 ≤ n) (h2 : n ≤ 9223372036854775807) : dec n = if n ≤ 0 then -1 else n - 1 := by
  obtain ⟨-, -, h3, h4⟩ := dec_range h1 h2
  split
  · exact h3 (by omega)
  · exact h4 (by omega)
theorem Cnt.step {k : Nat} {a b : Int} (h : Cnt (k + 1) a b) (h1 : -1 ≤ a) (h2 : a ≤ 9223372036854775807) : Cnt k (dec a) (rdec b) := by
  rw [dec_eq h1 h2]
  unfold Cnt at h ⊢
  unfold rdec
  split <;> split <;> omega
theorem Cnt.now {k : Nat} {a b : Int} (h : Cnt (k + 1) a b) : a = 0 ↔ b = 1 := by
  unfold Cnt at h
  omega
/-- Alike, for k calls. -/
structure Sim (k : Nat) (s r : Chp) : Prop where
  blocks : s.blocks = r.blocks
  pages : s.pages = r.pages
  br : s.br = r.br
  bp : s.bp = r.bp
  be : s.be = r.be
  keep : s.keep = r.keep
  down : s.down = r.down
  fail : Cnt k s.fail r.fail
  worn : Cnt k s.worn r.worn
  cut : Cnt k s.cut r.cut
theorem Sim.mono {k k' : Nat} {s r : Chp} (h : Sim k s r) (hk : k' ≤ k) : Sim k' s r := { h with fail := h.fail.mono hk, worn := h.worn.mono hk, cut := h.cut.mono hk }
theorem Sim.new (k n p : Nat) (bad : List Int) : Sim k (newS n p bad) ⟨(newS n p bad).blocks, p, 0, 0, 0, 0, 0, 0, 0, false⟩ := ⟨rfl, rfl, rfl, rfl, rfl, rfl, rfl, Cnt.off k, Cnt.off k, Cnt.off k⟩
theorem Sim.has {k : Nat} {s r : Chp} (h : Sim k s r) (b : Int) : hasB s b = hasB r b := by unfold hasB; rw [h.blocks]
theorem Sim.spot {k : Nat} {s r : Chp} (h : Sim k s r) (b p : Int) : spotB s b p = spotB r b p := by unfold spotB; rw [h.has, h.pages]
theorem Sim.block {k : Nat} {s r : Chp} (h : Sim k s r) (b : Int) : blockB s b = blockB r b := by unfold blockB; rw [h.has, h.blocks]
theorem Sim.failS {k : Nat} {s r : Chp} (h : Sim k s r) (hk : k ≤ 1000) (n : Int) : Sim k (failS s n) (rfailS r n) := { h with fail := Cnt.set k hk }
theorem Sim.wornS {k : Nat} {s r : Chp} (h : Sim k s r) (hk : k ≤ 1000) (n : Int) : Sim k (wornS s n) (rwornS r n) := { h with worn := Cnt.set k hk }
theorem Sim.cutS {k : Nat} {s r : Chp} (h : Sim k s r) (hk : k ≤ 1000) (n q : Int) : Sim k (cutS s n q) (rcutS r n q) := { h with cut := Cnt.set k hk, keep := by simp only [Cm.cutS, rcutS]; split <;> split <;> omega }
theorem Sim.powerS {k : Nat} {s r : Chp} (h : Sim k s r) : Sim k (powerS s) (rpowerS r) := { h with cut := Cnt.off k, down := rfl }
theorem Sim.readS {k : Nat} {s r : Chp} (h : Sim k s r) (b p : Int) : Sim k (readS s b p) (readS r b p) := by
  unfold Cm.readS
  rw [h.spot, h.down, h.br]
  split
  · exact { h with br := rfl, down := rfl }
  · exact h
theorem Sim.readE {k : Nat} {s r : Chp} (h : Sim k s r) (b p : Int) : readE s b p = readE r b p := by unfold Cm.readE; rw [h.spot, h.down]
theorem Sim.readX {k : Nat} {s r : Chp} (h : Sim k s r) (b p : Int) : readX s b p = readX r b p := by unfold Cm.readX pageOf; rw [h.spot, h.down, h.blocks]
theorem Sim.mod {k : Nat} {s r : Chp} (h : Sim k s r) (i : Nat) (f : Blk → Blk) : Sim k (s.mod i f) (r.mod i f) := { h with blocks := by simp only [Chp.mod]; rw [h.blocks] }
theorem Sim.downT {k : Nat} {s r : Chp} (h : Sim k s r) : Sim k { s with down := true } { r with down := true } := { h with down := rfl }
theorem Sim.bump {k : Nat} {s r : Chp} (h : Sim (k + 1) s r) (hv : s.Inv) (i : Nat) : Sim k (bump s i) (rbump r i) := by
  have hm := (h.mod i nextB).mono (Nat.le_succ k)
  exact { hm with bp := by simp only [Cm.bump, rbump]; rw [h.bp], cut := h.cut.step hv.c1 hv.c2, fail := h.fail.step hv.f1 hv.f2 }
theorem Sim.ebump {k : Nat} {s r : Chp} (h : Sim (k + 1) s r) (hv : s.Inv) (i : Nat) : Sim k (ebump s i) (rebump r i) := by
  have hm := (h.mod i countB).mono (Nat.le_succ k)
  exact { hm with be := by simp only [Cm.ebump, rebump]; rw [h.be], cut := h.cut.step hv.c1 hv.c2, worn := h.worn.step hv.w1 hv.w2 }
theorem Sim.progS {k : Nat} {s r : Chp} (h : Sim (k + 1) s r) (hv : s.Inv) (b p : Int) (xs : List Int) : Sim k (progS s b p xs).1 (rprogS r b p xs).1 ∧ (progS s b p xs).2 = (rprogS r b p xs).2 := by
  have h0 := h.mono (Nat.le_succ k)
  unfold Cm.progS rprogS
  by_cases hs : spotB r b p = true ∧ 1 ≤ xs.length ∧ xs.length ≤ 2000
  · rw [if_pos (show spotB s b p = true ∧ 1 ≤ xs.length ∧ xs.length ≤ 2000 by rw [h.spot]; exact hs), if_pos hs]
    by_cases hd : r.down = true
    · rw [if_pos (show s.down = true by rw [h.down]; exact hd), if_pos hd]
      exact ⟨h0, rfl⟩
    · rw [if_neg (show ¬ s.down = true by rw [h.down]; exact hd), if_neg hd]
      cases hB : r.blocks[b.toNat]? with
      | none =>
        have hB' : s.blocks[b.toNat]? = none := by rw [h.blocks]; exact hB
        simp only [hB']
        exact ⟨h0, trivial⟩
      | some B =>
        have hB' : s.blocks[b.toNat]? = some B := by rw [h.blocks]; exact hB
        simp only [hB']
        by_cases c0 : B.bad = true
        · rw [if_pos c0, if_pos c0]
          exact ⟨h0, rfl⟩
        · rw [if_neg c0, if_neg c0]
          by_cases c3 : p ≠ B.next
          · rw [if_pos c3, if_pos c3]
            exact ⟨h0, rfl⟩
          · rw [if_neg c3, if_neg c3]
            have hc := h.cut.now
            have hf := h.fail.now
            have hb := h.bump hv b.toNat
            unfold rgoS
            by_cases c1 : s.cut = 0
            · rw [if_pos c1, if_pos (hc.1 c1), h.keep]
              exact ⟨(hb.mod _ _).downT, rfl⟩
            · rw [if_neg c1, if_neg (fun e => c1 (hc.2 e))]
              by_cases c2 : s.fail = 0
              · rw [if_pos c2, if_pos (hf.1 c2)]
                exact ⟨(hb.mod _ _).mod _ _, rfl⟩
              · rw [if_neg c2, if_neg (fun e => c2 (hf.2 e))]
                exact ⟨hb.mod _ _, rfl⟩
  · rw [if_neg (show ¬ (spotB s b p = true ∧ 1 ≤ xs.length ∧ xs.length ≤ 2000) by rw [h.spot]; exact hs), if_neg hs]
    exact ⟨h0, rfl⟩
theorem Sim.eraseS {k : Nat} {s r : Chp} (h : Sim (k + 1) s r) (hv : s.Inv) (b : Int) : Sim k (eraseS s b).1 (reraseS r b).1 ∧ (eraseS s b).2 = (reraseS r b).2 := by
  have h0 := h.mono (Nat.le_succ k)
  unfold Cm.eraseS reraseS
  by_cases hs : hasB r b = true
  · rw [if_pos (show hasB s b = true by rw [h.has]; exact hs), if_pos hs]
    by_cases hd : r.down = true
    · rw [if_pos (show s.down = true by rw [h.down]; exact hd), if_pos hd]
      exact ⟨h0, rfl⟩
    · rw [if_neg (show ¬ s.down = true by rw [h.down]; exact hd), if_neg hd]
      cases hB : r.blocks[b.toNat]? with
      | none =>
        have hB' : s.blocks[b.toNat]? = none := by rw [h.blocks]; exact hB
        simp only [hB']
        exact ⟨h0, trivial⟩
      | some B =>
        have hB' : s.blocks[b.toNat]? = some B := by rw [h.blocks]; exact hB
        simp only [hB']
        by_cases c0 : B.bad = true
        · rw [if_pos c0, if_pos c0]
          exact ⟨h0, rfl⟩
        · rw [if_neg c0, if_neg c0]
          have hc := h.cut.now
          have hf := h.worn.now
          have hb := h.ebump hv b.toNat
          unfold erS rerS
          by_cases c1 : s.cut = 0
          · rw [if_pos c1, if_pos (hc.1 c1), h.keep, h.pages]
            by_cases c4 : r.keep < r.pages
            · rw [if_pos c4, if_pos c4]
              exact ⟨((hb.mod _ _).mod _ _).downT, rfl⟩
            · rw [if_neg c4, if_neg c4]
              exact ⟨((hb.mod _ _).mod _ _).downT, rfl⟩
          · rw [if_neg c1, if_neg (fun e => c1 (hc.2 e)), h.pages]
            by_cases c2 : s.worn = 0
            · rw [if_pos c2, if_pos (hf.1 c2)]
              exact ⟨hb.mod _ _, rfl⟩
            · rw [if_neg c2, if_neg (fun e => c2 (hf.2 e))]
              exact ⟨(hb.mod _ _).mod _ _, rfl⟩
  · rw [if_neg (show ¬ hasB s b = true by rw [h.has]; exact hs), if_neg hs]
    exact ⟨h0, rfl⟩
end Go.Proofs.Ytloldgiggnhemaa.Cm
