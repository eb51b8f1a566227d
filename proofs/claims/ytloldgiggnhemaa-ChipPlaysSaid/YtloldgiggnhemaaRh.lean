import Derived.Test.YtloldgiggnhemaaRy
import Derived.Test.YtloldgiggnhemaaRs
set_option linter.unusedVariables false
set_option linter.unusedSimpArgs false
/-! The two chips, beside one another. -/
namespace Go.Proofs.Ytloldgiggnhemaa.Cm
open Go.RowKit Go.Proofs.YtloldgiggnhemaaW.PrintWords Go.Proofs.YtloldgiggnhemaaW.PrintLast Go.Proofs.YtloldgiggnhemaaW.PrintMore Go.Proofs.Ytloldgiggnhemaa.Kp Go.Proofs.Ytloldgiggnhemaa.Cp

/-- The reference's chip lies in the blocks S, all of which are there. -/
structure RHd (W : World) (base : Nat) (S : Nat → Prop) (g : Nat) (s : Chp) : Prop where
  chip : IsRef W base S g s
  lt : ∀ k, S k → k < W.heap.size
section
variable {W W1 W2 : World} {base : Nat} {S S1 S2 : Nat → Prop} {g : Nat} {s s' : Chp}
theorem RHd.below (h : RHd W base S g s) (hb : Below W.heap.size W W1) : RHd W1 base S g s := ⟨h.chip.below hb, fun k hk => Nat.lt_of_lt_of_le (h.lt k hk) hb.size⟩
theorem RHd.base_le (h : RHd W base S g s) : base ≤ W.heap.size := by
  obtain ⟨_, _, _, _, r⟩ := h.chip
  exact Nat.le_of_lt (Nat.lt_of_le_of_lt (r.okb g r.okg) (blk_lt r.hg))
theorem rnow_hd {ok : Nat → Prop} (hb0 : base ≤ W.heap.size) (hok : ∀ k, ok k → S k ∨ W.heap.size ≤ k) (hS : ∀ k, S k → base ≤ k) (h : RNow W base ok g s W1) : RHd W1 base (fun k => ok k ∧ k < W1.heap.size) g s ∧ Nx base W S W1 (fun k => ok k ∧ k < W1.heap.size) := by
  obtain ⟨h1, h2⟩ := h
  refine ⟨⟨h1.tight, fun k hk => hk.2⟩, ⟨⟨h2.bel.os, h2.bel.tape, h2.bel.output, h2.bel.size, fun k hk => h2.block k (Nat.lt_of_lt_of_le hk hb0) (fun ho => ?_)⟩, fun k hk hn => ⟨fun ho => ?_, h2.block k hk (fun ho => ?_)⟩⟩⟩
  · rcases hok k ho with h3 | h3
    · have := hS k h3; omega
    · omega
  · rcases hok k ho.1 with h3 | h3
    · exact hn h3
    · omega
  · rcases hok k ho with h3 | h3
    · exact hn h3
    · omega
theorem RHd.wide (h : RHd W base S g s) : IsRef W base (fun k => S k ∨ W.heap.size ≤ k) g s := h.chip.mono (fun k hk => .inl hk) (fun k hk => by
  rcases hk with hk | hk
  · exact h.chip.okb k hk
  · exact Nat.le_trans h.base_le hk)
/-- What a call that changes the chip tells. -/
def RCh (W : World) (base : Nat) (S : Nat → Prop) (g : Nat) (s' : Chp) (W' : World) : Prop := ∃ S', RHd W' base S' g s' ∧ Nx base W S W' S'
theorem rnow_ch (h : RHd W base S g s) (hn : RNow W base (fun k => S k ∨ W.heap.size ≤ k) g s' W1) : RCh W base S g s' W1 := by
  obtain ⟨h1, h2⟩ := rnow_hd h.base_le (fun k hk => hk) h.chip.okb hn
  exact ⟨_, h1, h2⟩
theorem rnow_hdS (h : RHd W base S g s) (hn : RNow W base S g s' W1) : RHd W1 base S g s' ∧ Nx base W S W1 S := by
  obtain ⟨h1, h2⟩ := hn
  have hb0 := h.base_le
  exact ⟨⟨h1, fun k hk => Nat.lt_of_lt_of_le (h.lt k hk) h2.bel.size⟩, ⟨⟨h2.bel.os, h2.bel.tape, h2.bel.output, h2.bel.size, fun k hk => h2.block k (Nat.lt_of_lt_of_le hk hb0) (fun ho => by have := h.chip.okb k ho; omega)⟩, fun k hk hn => ⟨hn, h2.block k hk hn⟩⟩⟩
theorem RHd.keep (h : RHd W base S g s) (hs : W.heap.size ≤ W1.heap.size) (hk : ∀ k, S k → W1.heap[k]? = W.heap[k]?) : RHd W1 base S g s := ⟨h.chip.keep hs (fun k ho _ => hk k ho), fun k hk' => Nat.lt_of_lt_of_le (h.lt k hk') hs⟩
theorem Hd.keepL (h : Hd W base S g s) (hs : W.heap.size ≤ W1.heap.size) (hk : ∀ k, S k → W1.heap[k]? = W.heap[k]?) : Hd W1 base S g s := ⟨h.chip.keep hs (fun k ho _ => hk k ho), fun k hk' => Nat.lt_of_lt_of_le (h.lt k hk') hs⟩
end
/-- Both chips lie there, apart. -/
structure Pm0 (W0 : World) (b1 b2 g g2 : Nat) (s r : Chp) (w : World) : Prop where
  ex : ∃ S S2, Hd w b1 S g s ∧ RHd w b2 S2 g2 r ∧ (∀ k, S k → ¬ S2 k) ∧ W0.heap.size ≤ b1 ∧ W0.heap.size ≤ b2
  bel : Below W0.heap.size W0 w
/-- The same, and a box beside them. -/
structure Pm (W0 : World) (b1 b2 g g2 : Nat) (bx : Nat) (o : Obj) (s r : Chp) (w : World) : Prop where
  ex : ∃ S S2, Hd w b1 S g s ∧ RHd w b2 S2 g2 r ∧ (∀ k, S k → ¬ S2 k) ∧ W0.heap.size ≤ b1 ∧ W0.heap.size ≤ b2 ∧ (W0.heap.size ≤ bx ∧ w.heap[bx]? = some o ∧ ¬ S bx ∧ ¬ S2 bx)
  bel : Below W0.heap.size W0 w
section
variable {W0 w w1 : World} {b1 b2 g g2 bx : Nat} {o o' : Obj} {s r s' r' : Chp}
theorem Pm.below (h : Pm W0 b1 b2 g g2 bx o s r w) (hb : Below w.heap.size w w1) : Pm W0 b1 b2 g g2 bx o s r w1 := by
  obtain ⟨⟨S, S2, h1, h2, h3, h4, h5, hbx, hko, hn1, hn2⟩, hB⟩ := h
  exact ⟨⟨S, S2, h1.below hb, h2.below hb, h3, h4, h5, hbx, (hb.block _ (blk_lt hko)).trans hko, hn1, hn2⟩, below_step hB hb⟩
theorem Pm.chip (h : Pm W0 b1 b2 g g2 bx o s r w) {f : Nat} {args : Array Value} {Q : Ending → World → Prop} (hc : ∀ S, Hd w b1 S g s → Calls Try.prog f args w fun e w' => Q e w' ∧ ∃ S', Hd w' b1 S' g s' ∧ Nx b1 w S w' S') : Calls Try.prog f args w fun e w' => Q e w' ∧ Pm W0 b1 b2 g g2 bx o s' r w' := by
  obtain ⟨⟨S, S2, h1, h2, h3, h4, h5, hbx, hko, hn1, hn2⟩, hB⟩ := h
  refine (hc S h1).mono ?_
  rintro e w' ⟨hq, S', h6, h7⟩
  exact ⟨hq, ⟨⟨S', S2, h6, h2.keep h7.bel.size (fun k hk => (h7.keep k (h2.lt k hk) (fun hs => h3 k hs hk)).2), fun k hk hk2 => (h7.keep k (h2.lt k hk2) (fun hs => h3 k hs hk2)).1 hk, h4, h5, hbx, h7.blk hko hn1, h7.not (blk_lt hko) hn1, hn2⟩, hB.trans (h7.bel.mono h4)⟩⟩
theorem Pm.ref (h : Pm W0 b1 b2 g g2 bx o s r w) {f : Nat} {args : Array Value} {Q : Ending → World → Prop} (hc : ∀ S, RHd w b2 S g2 r → Calls Try.prog f args w fun e w' => Q e w' ∧ ∃ S', RHd w' b2 S' g2 r' ∧ Nx b2 w S w' S') : Calls Try.prog f args w fun e w' => Q e w' ∧ Pm W0 b1 b2 g g2 bx o s r' w' := by
  obtain ⟨⟨S, S2, h1, h2, h3, h4, h5, hbx, hko, hn1, hn2⟩, hB⟩ := h
  refine (hc S2 h2).mono ?_
  rintro e w' ⟨hq, S', h6, h7⟩
  exact ⟨hq, ⟨⟨S, S', h1.keepL h7.bel.size (fun k hk => (h7.keep k (h1.lt k hk) (fun hs => h3 k hk hs)).2), h6, fun k hk hk2 => (h7.keep k (h1.lt k hk) (fun hs => h3 k hk hs)).1 hk2, h4, h5, hbx, h7.blk hko hn2, hn1, h7.not (blk_lt hko) hn2⟩, hB.trans (h7.bel.mono h5)⟩⟩
/-- A row that was there ahead is none of the chips'. -/
theorem Pm.arg (h : Pm W0 b1 b2 g g2 bx o s r w) {A : Option Addr} {xs : List Int} (hC : Kd.C (Kd.int .u8) W0 A xs.length xs) (h1 : 1 ≤ xs.length) {ad : Addr} (hA : A = some ad) : ad.block < W0.heap.size := by
  subst hA
  exact Kd.C_lt hC (by omega) (by decide)
theorem pmFail1 (h : Pm W0 b1 b2 g g2 bx o s r w) (n : Int) (hn : n ≤ 9223372036854775807) :
    Calls Try.prog 13 #[.pointer (some ⟨g, 0, none⟩), .int .i64 n] w fun e w' => (∃ v, e = .returned v) ∧ Pm W0 b1 b2 g g2 bx o (failS s n) r w' :=
  h.chip (Q := fun e _ => ∃ v, e = .returned v) (fun S hd => (failH hd n hn).mono (by rintro e w' ⟨he, h1, h2⟩; exact ⟨he, _, h1, h2⟩))
theorem pmWorn1 (h : Pm W0 b1 b2 g g2 bx o s r w) (n : Int) (hn : n ≤ 9223372036854775807) :
    Calls Try.prog 18 #[.pointer (some ⟨g, 0, none⟩), .int .i64 n] w fun e w' => (∃ v, e = .returned v) ∧ Pm W0 b1 b2 g g2 bx o (wornS s n) r w' :=
  h.chip (Q := fun e _ => ∃ v, e = .returned v) (fun S hd => (wornH hd n hn).mono (by rintro e w' ⟨he, h1, h2⟩; exact ⟨he, _, h1, h2⟩))
theorem pmCut1 (h : Pm W0 b1 b2 g g2 bx o s r w) (n k : Int) (hn : n ≤ 9223372036854775807) (hk : k ≤ 9223372036854775807) :
    Calls Try.prog 21 #[.pointer (some ⟨g, 0, none⟩), .int .i64 n, .int .i64 k] w fun e w' => (∃ v, e = .returned v) ∧ Pm W0 b1 b2 g g2 bx o (cutS s n k) r w' :=
  h.chip (Q := fun e _ => ∃ v, e = .returned v) (fun S hd => (cutH hd n k hn hk).mono (by rintro e w' ⟨he, h1, h2⟩; exact ⟨he, _, h1, h2⟩))
theorem pmPower1 (h : Pm W0 b1 b2 g g2 bx o s r w) :
    Calls Try.prog 22 #[.pointer (some ⟨g, 0, none⟩)] w fun e w' => (∃ v, e = .returned v) ∧ Pm W0 b1 b2 g g2 bx o (powerS s) r w' :=
  h.chip (Q := fun e _ => ∃ v, e = .returned v) (fun S hd => (powerH hd).mono (by rintro e w' ⟨he, h1, h2⟩; exact ⟨he, _, h1, h2⟩))
theorem pmErase1 (h : Pm W0 b1 b2 g g2 bx o s r w) (b : Int) :
    Calls Try.prog 17 #[.pointer (some ⟨g, 0, none⟩), .int .i64 b] w fun e w' => (e = .returned (.int .i64 (eraseS s b).2)) ∧ Pm W0 b1 b2 g g2 bx o (eraseS s b).1 r w' :=
  h.chip (Q := fun e _ => e = .returned (.int .i64 (eraseS s b).2)) (fun S hd => (eraseH hd b).mono (by rintro e w' ⟨he, h1, h2⟩; exact ⟨he, _, h1, h2⟩))
theorem pmFail2 (h : Pm W0 b1 b2 g g2 bx o s r w) (n : Int) :
    Calls Try.prog 27 #[.pointer (some ⟨g2, 0, none⟩), .int .i64 n] w fun e w' => (∃ v, e = .returned v) ∧ Pm W0 b1 b2 g g2 bx o s (rfailS r n) w' :=
  h.ref (Q := fun e _ => ∃ v, e = .returned v) (fun S hd => (rfail hd.chip n).mono (by rintro e w' ⟨he, hn⟩; obtain ⟨h1, h2⟩ := rnow_hdS hd hn; exact ⟨he, _, h1, h2⟩))
theorem pmWorn2 (h : Pm W0 b1 b2 g g2 bx o s r w) (n : Int) :
    Calls Try.prog 28 #[.pointer (some ⟨g2, 0, none⟩), .int .i64 n] w fun e w' => (∃ v, e = .returned v) ∧ Pm W0 b1 b2 g g2 bx o s (rwornS r n) w' :=
  h.ref (Q := fun e _ => ∃ v, e = .returned v) (fun S hd => (rworn hd.chip n).mono (by rintro e w' ⟨he, hn⟩; obtain ⟨h1, h2⟩ := rnow_hdS hd hn; exact ⟨he, _, h1, h2⟩))
theorem pmCut2 (h : Pm W0 b1 b2 g g2 bx o s r w) (n k : Int) (hk : k ≤ 9223372036854775807) :
    Calls Try.prog 29 #[.pointer (some ⟨g2, 0, none⟩), .int .i64 n, .int .i64 k] w fun e w' => (∃ v, e = .returned v) ∧ Pm W0 b1 b2 g g2 bx o s (rcutS r n k) w' :=
  h.ref (Q := fun e _ => ∃ v, e = .returned v) (fun S hd => (rcut hd.chip n k hk).mono (by rintro e w' ⟨he, hn⟩; obtain ⟨h1, h2⟩ := rnow_hdS hd hn; exact ⟨he, _, h1, h2⟩))
theorem pmPower2 (h : Pm W0 b1 b2 g g2 bx o s r w) :
    Calls Try.prog 30 #[.pointer (some ⟨g2, 0, none⟩)] w fun e w' => (∃ v, e = .returned v) ∧ Pm W0 b1 b2 g g2 bx o s (rpowerS r) w' :=
  h.ref (Q := fun e _ => ∃ v, e = .returned v) (fun S hd => (rpower hd.chip).mono (by rintro e w' ⟨he, hn⟩; obtain ⟨h1, h2⟩ := rnow_hdS hd hn; exact ⟨he, _, h1, h2⟩))
theorem pmErase2 (h : Pm W0 b1 b2 g g2 bx o s r w) (b : Int) :
    Calls Try.prog 26 #[.pointer (some ⟨g2, 0, none⟩), .int .i64 b] w fun e w' => (e = .returned (.int .i64 (reraseS r b).2)) ∧ Pm W0 b1 b2 g g2 bx o s (reraseS r b).1 w' :=
  h.ref (Q := fun e _ => e = .returned (.int .i64 (reraseS r b).2)) (fun S hd => (rerase hd.chip b).mono (by rintro e w' ⟨he, hn⟩; obtain ⟨h1, h2⟩ := rnow_hdS hd hn; exact ⟨he, _, h1, h2⟩))
theorem pmProg1 (h : Pm W0 b1 b2 g g2 bx o s r w) (b p : Int) (A : Option Addr) (c : Nat) (xs : List Int) (hC : Kd.C (Kd.int .u8) W0 A xs.length xs) (hc : xs.length ≤ c) :
    Calls Try.prog 14 #[.pointer (some ⟨g, 0, none⟩), .agg #[.int .i64 b, .int .i64 p], .slice A xs.length c] w fun e w' => (e = .returned (.int .i64 (progS s b p xs).2)) ∧ Pm W0 b1 b2 g g2 bx o (progS s b p xs).1 r w' := by
  have hb := h.bel
  have ha := fun h1 ad hA => h.arg (A := A) hC h1 (ad := ad) hA
  have h4 : W0.heap.size ≤ b1 := by obtain ⟨⟨_, _, _, _, _, h4, _⟩, _⟩ := h; exact h4
  exact h.chip (Q := fun e _ => e = .returned (.int .i64 (progS s b p xs).2)) (fun S hd => (programHE hd b p A c xs (Kd.C_below hC hb) hc (fun h1 ad hA => ⟨Nat.lt_of_lt_of_le (ha h1 ad hA) hb.size, fun hs => by have := hd.chip.okb _ hs; have := ha h1 ad hA; omega⟩)).mono (by rintro e w' ⟨he, S', h1, h2⟩; exact ⟨he, S', h1, h2⟩))
theorem rprogramHE {base : Nat} {S : Nat → Prop} {g : Nat} {s : Chp} (h : RHd w base S g s) (b p : Int) (A : Option Addr) (c : Nat) (xs : List Int) (hC : Kd.C (Kd.int .u8) w A xs.length xs) (hc : xs.length ≤ c) (h2 : 1 ≤ xs.length → ∀ ad, A = some ad → ad.block < w.heap.size ∧ ¬ S ad.block) :
    Calls Try.prog 31 #[.pointer (some ⟨g, 0, none⟩), .agg #[.int .i64 b, .int .i64 p], .slice A xs.length c] w fun e W' => e = .returned (.int .i64 (rprogS s b p xs).2) ∧ RCh w base S g (rprogS s b p xs).1 W' := by
  by_cases h1 : 1 ≤ xs.length
  · refine (rprogram h.wide b p A c xs hC hc (fun ad hA => ?_) (fun k hk => .inr hk)).mono ?_
    · obtain ⟨h3, h4⟩ := h2 h1 ad hA
      rintro (h5 | h5)
      · exact h4 h5
      · omega
    · rintro e W' ⟨rfl, hn⟩
      exact ⟨rfl, rnow_ch h hn⟩
  · have e : rprogS s b p xs = (s, 1) := by
      unfold rprogS
      rw [if_neg (fun hh => h1 hh.2.1)]
    rw [e]
    refine (rprog_arg h.wide b p A c xs (fun hh => h1 hh.2.1)).mono ?_
    rintro e W' ⟨rfl, hn⟩
    exact ⟨rfl, rnow_ch h hn⟩
theorem pmProg2 (h : Pm W0 b1 b2 g g2 bx o s r w) (b p : Int) (A : Option Addr) (c : Nat) (xs : List Int) (hC : Kd.C (Kd.int .u8) W0 A xs.length xs) (hc : xs.length ≤ c) :
    Calls Try.prog 31 #[.pointer (some ⟨g2, 0, none⟩), .agg #[.int .i64 b, .int .i64 p], .slice A xs.length c] w fun e w' => (e = .returned (.int .i64 (rprogS r b p xs).2)) ∧ Pm W0 b1 b2 g g2 bx o s (rprogS r b p xs).1 w' := by
  have hb := h.bel
  have ha := fun h1 ad hA => h.arg (A := A) hC h1 (ad := ad) hA
  have h4 : W0.heap.size ≤ b2 := by obtain ⟨⟨_, _, _, _, _, _, h4, _⟩, _⟩ := h; exact h4
  exact h.ref (Q := fun e _ => e = .returned (.int .i64 (rprogS r b p xs).2)) (fun S hd => (rprogramHE hd b p A c xs (Kd.C_below hC hb) hc (fun h1 ad hA => ⟨Nat.lt_of_lt_of_le (ha h1 ad hA) hb.size, fun hs => by have := hd.chip.okb _ hs; have := ha h1 ad hA; omega⟩)).mono (by rintro e w' ⟨he, S', h1, h2⟩; exact ⟨he, S', h1, h2⟩))
/-- The same; the reference's blocks lie below m. -/
structure PmB (m : Nat) (W0 : World) (b1 b2 g g2 : Nat) (bx : Nat) (o : Obj) (s r : Chp) (w : World) : Prop where
  ex : ∃ S S2, Hd w b1 S g s ∧ RHd w b2 S2 g2 r ∧ (∀ k, S k → ¬ S2 k) ∧ W0.heap.size ≤ b1 ∧ W0.heap.size ≤ b2 ∧ (∀ k, S2 k → k < m) ∧ (W0.heap.size ≤ bx ∧ w.heap[bx]? = some o ∧ ¬ S bx ∧ ¬ S2 bx)
  bel : Below W0.heap.size W0 w
theorem pmRead1 (h : Pm W0 b1 b2 g g2 bx o s r w) (b p : Int) (hx : (readX s b p).length ≤ 100000) :
    Calls Try.prog 15 #[.pointer (some ⟨g, 0, none⟩), .agg #[.int .i64 b, .int .i64 p]] w fun e w' => ∃ v, e = .returned (.tuple #[v, .int .i64 (readE s b p)]) ∧ Kd.R (Kd.int .u8) 5 w' w.heap.size (fun _ => True) v (readX s b p) ∧ PmB w.heap.size W0 b1 b2 g g2 bx o (readS s b p) r w' := by
  obtain ⟨⟨S, S2, h1, h2, h3, h4, h5, hbx, hko, hn1, hn2⟩, hB⟩ := h
  refine (readH h1 b p hx).mono ?_
  rintro e w' ⟨v, rfl, hR, h6, h7⟩
  exact ⟨v, rfl, hR, ⟨⟨S, S2, h6, h2.keep h7.bel.size (fun k hk => (h7.keep k (h2.lt k hk) (fun hs => h3 k hs hk)).2), h3, h4, h5, h2.lt, hbx, h7.blk hko hn1, hn1, hn2⟩, hB.trans (h7.bel.mono h4)⟩⟩
theorem pmRead2 {m : Nat} (h : PmB m W0 b1 b2 g g2 bx o s r w) (b p : Int) (hx : (readX r b p).length ≤ 100000) {v : Value} {xs : List Int} (hv : Kd.R (Kd.int .u8) 5 w m (fun _ => True) v xs) :
    Calls Try.prog 25 #[.pointer (some ⟨g2, 0, none⟩), .agg #[.int .i64 b, .int .i64 p]] w fun e w' => ∃ u, e = .returned (.tuple #[u, .int .i64 (readE r b p)]) ∧ Kd.R (Kd.int .u8) 5 w' w.heap.size (fun _ => True) u (readX r b p) ∧ (∃ ok, Kd.R (Kd.int .u8) 5 w' m ok v xs) ∧ Pm W0 b1 b2 g g2 bx o s (readS r b p) w' := by
  obtain ⟨⟨S, S2, h1, h2, h3, h4, h5, hm, hbx, hko, hn1, hn2⟩, hB⟩ := h
  refine (rread h2.chip b p hx).mono ?_
  rintro e w' ⟨u, rfl, hR, hn⟩
  obtain ⟨h6, h7⟩ := rnow_hdS h2 hn
  refine ⟨u, rfl, hR, ⟨_, h7.R (Kd.R_mono (Kd.R_bound hv) (fun k hk => hk.2.1)) (fun k hk hs => by have := hm k hs; omega)⟩, ⟨⟨S, S2, h1.keepL h7.bel.size (fun k hk => (h7.keep k (h1.lt k hk) (fun hs => h3 k hk hs)).2), h6, h3, h4, h5, hbx, h7.blk hko hn2, hn1, hn2⟩, hB.trans (h7.bel.mono h5)⟩⟩
theorem PmB.blk {m : Nat} (h : PmB m W0 b1 b2 g g2 bx o s r w) : w.heap[bx]? = some o := by
  obtain ⟨⟨S, S2, h1, h2, h3, h4, h5, hm, hbx, hko, hn1, hn2⟩, hB⟩ := h
  exact hko
theorem pmDown (h : Pm W0 b1 b2 g g2 bx o s r w) : Calls Try.prog 32 #[.pointer (some ⟨g, 0, none⟩)] w fun e w' => e = .returned (.bool s.down) ∧ w' = w := by
  obtain ⟨⟨S, S2, h1, h2, h3, h4, h5, hbx, hko, hn1, hn2⟩, hB⟩ := h
  exact down h1.chip
theorem pmBill (h : Pm W0 b1 b2 g g2 bx o s r w) : Calls Try.prog 20 #[.pointer (some ⟨g, 0, none⟩)] w fun e w' => e = .returned (.agg #[.int .i64 s.br, .int .i64 s.bp, .int .i64 s.be]) ∧ Below w.heap.size w w' := by
  obtain ⟨⟨S, S2, h1, h2, h3, h4, h5, hbx, hko, hn1, hn2⟩, hB⟩ := h
  exact bill h1.chip
theorem pmBlock (h : Pm W0 b1 b2 g g2 bx o s r w) (b : Int) (hx : ∀ xs ∈ (blockB s b).pages, xs.length ≤ 100000) : Calls Try.prog 16 #[.pointer (some ⟨g, 0, none⟩), .int .i64 b] w fun e w' => ∃ v, e = .returned v ∧ BlkR w' v (blockB s b) ∧ Below w.heap.size w w' := by
  obtain ⟨⟨S, S2, h1, h2, h3, h4, h5, hbx, hko, hn1, hn2⟩, hB⟩ := h
  refine (blockH h1 b hx).mono ?_
  rintro e w' ⟨v, rfl, hv, -, hb⟩
  exact ⟨v, rfl, hv.reads, hb⟩
theorem pmAt (h : Pm W0 b1 b2 g g2 bx o s r w) (b : Int) : Calls Try.prog 34 #[.pointer (some ⟨g2, 0, none⟩), .int .i64 b] w fun e w' => ∃ v, e = .returned v ∧ BlkR w' v (blockB r b) ∧ Below w.heap.size w w' := by
  obtain ⟨⟨S, S2, h1, h2, h3, h4, h5, hbx, hko, hn1, hn2⟩, hB⟩ := h
  exact rat h2.chip b
theorem Pm.forget (h : Pm W0 b1 b2 g g2 bx o s r w) : Pm0 W0 b1 b2 g g2 s r w := by
  obtain ⟨⟨S, S2, h1, h2, h3, h4, h5, -⟩, hB⟩ := h
  exact ⟨⟨S, S2, h1, h2, h3, h4, h5⟩, hB⟩
theorem Pm0.below (h : Pm0 W0 b1 b2 g g2 s r w) (hb : Below w.heap.size w w1) : Pm0 W0 b1 b2 g g2 s r w1 := by
  obtain ⟨⟨S, S2, h1, h2, h3, h4, h5⟩, hB⟩ := h
  exact ⟨⟨S, S2, h1.below hb, h2.below hb, h3, h4, h5⟩, below_step hB hb⟩
theorem Pm0.box (h : Pm0 W0 b1 b2 g g2 s r w) (o : Obj) (h1 : (w.alloc o).heap[w.heap.size]? = some o') (hb : Below w.heap.size w (w.alloc o)) : Pm W0 b1 b2 g g2 w.heap.size o' s r (w.alloc o) := by
  obtain ⟨⟨S, S2, h2, h3, h4, h5, h6⟩, hB⟩ := h
  exact ⟨⟨S, S2, h2.below hb, h3.below hb, h4, h5, h6, hB.size, h1, fun hs => Nat.lt_irrefl _ (h2.lt _ hs), fun hs => Nat.lt_irrefl _ (h3.lt _ hs)⟩, below_step hB hb⟩
theorem Pm.blk (h : Pm W0 b1 b2 g g2 bx o s r w) : w.heap[bx]? = some o := by
  obtain ⟨⟨S, S2, h1, h2, h3, h4, h5, hbx, hko, hn1, hn2⟩, hB⟩ := h
  exact hko
/-- The box is written. -/
theorem Pm.put (h : Pm W0 b1 b2 g g2 bx o s r w) (j : Nat) (v : Value) (ho : (w.setCell ⟨bx, j, none⟩ v).heap[bx]? = some o') : Pm W0 b1 b2 g g2 bx o' s r (w.setCell ⟨bx, j, none⟩ v) := by
  obtain ⟨⟨S, S2, h1, h2, h3, h4, h5, hbx, hko, hn1, hn2⟩, hB⟩ := h
  have hk : ∀ k, k ≠ bx → (w.setCell ⟨bx, j, none⟩ v).heap[k]? = w.heap[k]? := fun k hk => Below.heap_setCell w ⟨bx, j, none⟩ v k hk
  have hz : w.heap.size ≤ (w.setCell ⟨bx, j, none⟩ v).heap.size := by simp [World.setCell]
  exact ⟨⟨S, S2, h1.keepL hz (fun k hs => hk k (fun e => hn1 (e ▸ hs))), h2.keep hz (fun k hs => hk k (fun e => hn2 (e ▸ hs))), h3, h4, h5, hbx, ho, hn1, hn2⟩, hB.setCell hbx v⟩
theorem Pm0.mk' {S S2 : Nat → Prop} (h1 : Hd w b1 S g s) (h2 : RHd w b2 S2 g2 r) (h3 : ∀ k, S k → ¬ S2 k) (h4 : W0.heap.size ≤ b1) (h5 : W0.heap.size ≤ b2) (hB : Below W0.heap.size W0 w) : Pm0 W0 b1 b2 g g2 s r w := ⟨⟨S, S2, h1, h2, h3, h4, h5⟩, hB⟩
theorem Pm0.inv (h : Pm0 W0 b1 b2 g g2 s r w) : s.Inv := by
  obtain ⟨⟨S, S2, h1, -⟩, hB⟩ := h
  exact h1.chip.inv
/-- The reference's cells. -/
theorem Pm0.cells (h : Pm0 W0 b1 b2 g g2 s r w) : ∃ hh cap pg, (w.cell? ⟨g2, 0, none⟩ = some (.slice (some ⟨hh, 0, none⟩) r.blocks.length cap) ∧ w.cell? ⟨g2, 6, none⟩ = some (.bool r.down) ∧ w.cell? ⟨g2, 7, none⟩ = some (.int .i64 r.br) ∧ w.cell? ⟨g2, 8, none⟩ = some (.int .i64 r.bp) ∧ w.cell? ⟨g2, 9, none⟩ = some (.int .i64 r.be)) ∧ ∃ base ok cs, RRep w base ok g2 hh cap cs pg r := by
  obtain ⟨⟨S, S2, h1, h2, h3, h4, h5⟩, hB⟩ := h
  obtain ⟨hh, cap, cs, pg, q⟩ := h2.chip
  exact ⟨hh, cap, pg, ⟨(rten q).1.1, (rten q).2.1.2.1, (rten q).2.1.2.2.1, (rten q).2.1.2.2.2.1, (rten q).2.1.2.2.2.2⟩, _, _, cs, q⟩
theorem pmBlocks (h : Pm0 W0 b1 b2 g g2 s r w) (hx : ∀ B ∈ s.blocks, ∀ xs ∈ B.pages, xs.length ≤ 100000) : Calls Try.prog 36 #[.pointer (some ⟨g, 0, none⟩)] w fun e w' => ∃ A c l b0, e = .returned (.slice A l.length c) ∧ Kd.C kF w' A l.length l ∧ FBs w' b0 s.blocks l ∧ Pm0 W0 b1 b2 g g2 s r w' ∧ Below w.heap.size w w' := by
  have h0 := h
  obtain ⟨⟨S, S2, h1, h2, h3, h4, h5⟩, hB⟩ := h
  refine (blocks h1 hx).mono ?_
  rintro e w' ⟨v, l, rfl, hR, hF, -, hb⟩
  obtain ⟨A', c', rfl, -, h6⟩ := Kd.R_reads hR
  exact ⟨A', c', l, _, rfl, h6, hF, h0.below hb, hb⟩
theorem Pm.inv (h : Pm W0 b1 b2 g g2 bx o s r w) : s.Inv := by
  obtain ⟨⟨S, S2, h1, -⟩, hB⟩ := h
  exact h1.chip.inv
end
end Go.Proofs.Ytloldgiggnhemaa.Cm
