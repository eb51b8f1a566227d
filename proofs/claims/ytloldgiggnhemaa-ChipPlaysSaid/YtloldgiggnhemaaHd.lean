import Derived.Test.YtloldgiggnhemaaNw
set_option linter.unusedVariables false
set_option linter.unusedSimpArgs false
/-! The chip and what lies beside it, call by call. -/
namespace Go.Proofs.Ytloldgiggnhemaa.Cm
open Go.RowKit Go.Proofs.YtloldgiggnhemaaW.PrintWords Go.Proofs.YtloldgiggnhemaaW.PrintLast Go.Proofs.YtloldgiggnhemaaW.PrintMore Go.Proofs.Ytloldgiggnhemaa.Kp Go.Proofs.Ytloldgiggnhemaa.Cp

/-- A chip lies in the blocks S, all of which are there. -/
structure Hd (W : World) (base : Nat) (S : Nat → Prop) (g : Nat) (s : Chp) : Prop where
  chip : IsChip W base S g s
  lt : ∀ k, S k → k < W.heap.size
/-- From W to W': what was not the chip's lies where it lay, and is not the chip's. -/
structure Nx (base : Nat) (W : World) (S : Nat → Prop) (W' : World) (S' : Nat → Prop) : Prop where
  bel : Below base W W'
  keep : ∀ k, k < W.heap.size → ¬ S k → ¬ S' k ∧ W'.heap[k]? = W.heap[k]?
section
variable {W W1 W2 : World} {base : Nat} {S S1 S2 : Nat → Prop} {g : Nat} {s s' : Chp}
theorem Nx.refl : Nx base W S W S := ⟨Below.refl _ _, fun _ _ h => ⟨h, rfl⟩⟩
theorem Nx.trans (h : Nx base W S W1 S1) (k : Nx base W1 S1 W2 S2) : Nx base W S W2 S2 := ⟨h.bel.trans k.bel, fun i hi hn => by
  obtain ⟨h1, h2⟩ := h.keep i hi hn
  obtain ⟨h3, h4⟩ := k.keep i (Nat.lt_of_lt_of_le hi h.bel.size) h1
  exact ⟨h3, h4.trans h2⟩⟩
theorem Nx.of_below (hb : Below W.heap.size W W1) (hbs : base ≤ W.heap.size) : Nx base W S W1 S := ⟨hb.mono hbs, fun i hi hn => ⟨hn, hb.block i hi⟩⟩
theorem Hd.below (h : Hd W base S g s) (hb : Below W.heap.size W W1) : Hd W1 base S g s := ⟨h.chip.below hb, fun k hk => Nat.lt_of_lt_of_le (h.lt k hk) hb.size⟩
theorem Hd.base_le (h : Hd W base S g s) : base ≤ W.heap.size := by
  obtain ⟨_, _, _, _, r⟩ := h.chip
  exact Nat.le_of_lt (Nat.lt_of_le_of_lt (r.okb g r.okg) (blk_lt r.hg))
theorem Nx.blk (h : Nx base W S W1 S1) {k : Nat} {o : Obj} (hk : W.heap[k]? = some o) (hn : ¬ S k) : W1.heap[k]? = some o := ((h.keep k (blk_lt hk) hn).2).trans hk
theorem Nx.not (h : Nx base W S W1 S1) {k : Nat} (hk : k < W.heap.size) (hn : ¬ S k) : ¬ S1 k := (h.keep k hk hn).1
theorem Nx.R {α : Type} {d : Kd α} {e b2 : Nat} {ok : Nat → Prop} {v : Value} {xs : List α} (h : Nx base W S W1 S1) (hR : d.R e W b2 ok v xs) (hn : ∀ k, ok k → ¬ S k) : d.R e W1 b2 ok v xs := Kd.R_step hR (fun k ho hk => (h.keep k hk (hn k ho)).2)
theorem now_hd {ok : Nat → Prop} (hb0 : base ≤ W.heap.size) (hok : ∀ k, ok k → S k ∨ W.heap.size ≤ k) (hS : ∀ k, S k → base ≤ k) (h : Now W base ok g s W1) : Hd W1 base (fun k => ok k ∧ k < W1.heap.size) g s ∧ Nx base W S W1 (fun k => ok k ∧ k < W1.heap.size) := by
  obtain ⟨h1, h2⟩ := h
  refine ⟨⟨h1.tight, fun k hk => hk.2⟩, ⟨⟨h2.bel.os, h2.bel.tape, h2.bel.output, h2.bel.size, fun k hk => h2.block k (Nat.lt_of_lt_of_le hk hb0) (fun ho => ?_)⟩, fun k hk hn => ⟨fun ho => ?_, h2.block k hk (fun ho => ?_)⟩⟩⟩
  · rcases hok k ho with h3 | h3
    · have := hS k h3; omega
    · omega
  · rcases hok k ho.1 with h3 | h3
    · exact hn h3
    · omega
  · rcases hok k ho with h3 | h3
    · exact hn h3
    · omega
theorem Hd.wide (h : Hd W base S g s) : IsChip W base (fun k => S k ∨ W.heap.size ≤ k) g s := h.chip.mono (fun k hk => .inl hk) (fun k hk => by
  rcases hk with hk | hk
  · exact h.chip.okb k hk
  · exact Nat.le_trans h.base_le hk)
/-- What a call that changes the chip tells. -/
def Ch (W : World) (base : Nat) (S : Nat → Prop) (g : Nat) (s' : Chp) (W' : World) : Prop := ∃ S', Hd W' base S' g s' ∧ Nx base W S W' S'
theorem now_ch (h : Hd W base S g s) (hn : Now W base (fun k => S k ∨ W.heap.size ≤ k) g s' W1) : Ch W base S g s' W1 := by
  obtain ⟨h1, h2⟩ := now_hd h.base_le (fun k hk => hk) h.chip.okb hn
  exact ⟨_, h1, h2⟩
theorem now_hdS (h : Hd W base S g s) (hn : Now W base S g s' W1) : Hd W1 base S g s' ∧ Nx base W S W1 S := by
  obtain ⟨h1, h2⟩ := hn
  have hb0 := h.base_le
  exact ⟨⟨h1, fun k hk => Nat.lt_of_lt_of_le (h.lt k hk) h2.bel.size⟩, ⟨⟨h2.bel.os, h2.bel.tape, h2.bel.output, h2.bel.size, fun k hk => h2.block k (Nat.lt_of_lt_of_le hk hb0) (fun ho => by have := h.chip.okb k ho; omega)⟩, fun k hk hn => ⟨hn, h2.block k hk hn⟩⟩⟩
theorem programH (h : Hd W base S g s) (b p : Int) (A : Option Addr) (c : Nat) (xs : List Int) (hC : Kd.C (Kd.int .u8) W A xs.length xs) (hc : xs.length ≤ c) (h2 : ∀ ad, A = some ad → ad.block < W.heap.size ∧ ¬ S ad.block) :
    Calls Try.prog 14 #[.pointer (some ⟨g, 0, none⟩), .agg #[.int .i64 b, .int .i64 p], .slice A xs.length c] W fun e W' => e = .returned (.int .i64 (progS s b p xs).2) ∧ Ch W base S g (progS s b p xs).1 W' := by
  refine (program h.wide b p A c xs hC hc (fun ad hA => ?_) (fun k hk => .inr hk)).mono ?_
  · obtain ⟨h3, h4⟩ := h2 ad hA
    rintro (h5 | h5)
    · exact h4 h5
    · omega
  · rintro e W' ⟨rfl, hn⟩
    exact ⟨rfl, now_ch h hn⟩
theorem eraseH (h : Hd W base S g s) (b : Int) :
    Calls Try.prog 17 #[.pointer (some ⟨g, 0, none⟩), .int .i64 b] W fun e W' => e = .returned (.int .i64 (eraseS s b).2) ∧ Hd W' base S g (eraseS s b).1 ∧ Nx base W S W' S := by
  refine (erase h.chip b).mono ?_
  rintro e W' ⟨rfl, hn⟩
  exact ⟨rfl, now_hdS h hn⟩
theorem readH (h : Hd W base S g s) (b p : Int) (hx : (readX s b p).length ≤ 100000) :
    Calls Try.prog 15 #[.pointer (some ⟨g, 0, none⟩), .agg #[.int .i64 b, .int .i64 p]] W fun e W' => ∃ v : Value, e = .returned (.tuple #[v, .int .i64 (readE s b p)]) ∧ Kd.R (Kd.int .u8) 5 W' W.heap.size (fun _ => True) v (readX s b p) ∧ Hd W' base S g (readS s b p) ∧ Nx base W S W' S := by
  refine (read h.chip b p hx).mono ?_
  rintro e W' ⟨v, rfl, hR, hn⟩
  exact ⟨v, rfl, hR, now_hdS h hn⟩
theorem blockH (h : Hd W base S g s) (b : Int) (hx : ∀ xs ∈ (blockB s b).pages, xs.length ≤ 100000) :
    Calls Try.prog 16 #[.pointer (some ⟨g, 0, none⟩), .int .i64 b] W fun e W' => ∃ v, e = .returned v ∧ BlkV W' W.heap.size v (blockB s b) ∧ Hd W' base S g s ∧ Below W.heap.size W W' := by
  refine (block h.chip b hx).mono ?_
  rintro e W' ⟨v, rfl, hv, hb⟩
  exact ⟨v, rfl, hv, h.below hb, hb⟩
theorem failH (h : Hd W base S g s) (n : Int) (hn : n ≤ 9223372036854775807) : Calls Try.prog 13 #[.pointer (some ⟨g, 0, none⟩), .int .i64 n] W fun e W' => (∃ v, e = .returned v) ∧ Hd W' base S g (failS s n) ∧ Nx base W S W' S := by
  refine (fail h.chip n hn).mono ?_
  rintro e W' ⟨he, hn⟩
  exact ⟨he, now_hdS h hn⟩
theorem wornH (h : Hd W base S g s) (n : Int) (hn : n ≤ 9223372036854775807) : Calls Try.prog 18 #[.pointer (some ⟨g, 0, none⟩), .int .i64 n] W fun e W' => (∃ v, e = .returned v) ∧ Hd W' base S g (wornS s n) ∧ Nx base W S W' S := by
  refine (worn h.chip n hn).mono ?_
  rintro e W' ⟨he, hn⟩
  exact ⟨he, now_hdS h hn⟩
theorem cutH (h : Hd W base S g s) (n k : Int) (hn : n ≤ 9223372036854775807) (hk : k ≤ 9223372036854775807) : Calls Try.prog 21 #[.pointer (some ⟨g, 0, none⟩), .int .i64 n, .int .i64 k] W fun e W' => (∃ v, e = .returned v) ∧ Hd W' base S g (cutS s n k) ∧ Nx base W S W' S := by
  refine (cut h.chip n k hn hk).mono ?_
  rintro e W' ⟨he, hn⟩
  exact ⟨he, now_hdS h hn⟩
theorem powerH (h : Hd W base S g s) : Calls Try.prog 22 #[.pointer (some ⟨g, 0, none⟩)] W fun e W' => (∃ v, e = .returned v) ∧ Hd W' base S g (powerS s) ∧ Nx base W S W' S := by
  refine (power h.chip).mono ?_
  rintro e W' ⟨he, hn⟩
  exact ⟨he, now_hdS h hn⟩
theorem newH (w : World) (n p : Nat) (A : Option Addr) (c : Nat) (bad : List Int) (hC : Kd.C (Kd.int .i64) w A bad.length bad) (hc : bad.length ≤ c) (hl : bad.length ≤ 100000) (hn1 : 1 ≤ n) (hn2 : n ≤ 64) (hp1 : 1 ≤ p) (hp2 : p ≤ 32) :
    Calls Try.prog 12 #[.int .i64 (n : Int), .int .i64 (p : Int), .slice A bad.length c] w fun e w' => ∃ g, e = .returned (.pointer (some ⟨g, 0, none⟩)) ∧ Hd w' w.heap.size (fun k => w.heap.size ≤ k ∧ k < w'.heap.size) g (newS n p bad) ∧ Below w.heap.size w w' := by
  refine (new w n p A c bad hC hc hl hn1 hn2 hp1 hp2).mono ?_
  rintro e w' ⟨g, rfl, h1, h2⟩
  exact ⟨g, rfl, ⟨h1.tight, fun k hk => hk.2⟩, h2⟩
/-- A row of bytes as it lies. -/
theorem C_lit {b : Nat} {cs : Array Value} {fr : Nat × Nat} {xs : List Int} (h : W.heap[b]? = some (.cells cs 5 fr)) (hc : cs.toList = xs.map (Value.int .u8)) (hl : xs.length ≤ 1000000) : Kd.C (Kd.int .u8) W (some ⟨b, 0, none⟩) xs.length xs := by
  refine Kd.C_of_reads (d := (0 : Int)) ⟨rfl, by omega, fun _ => ⟨_, rfl, fun j hj => ?_⟩⟩
  have : W.cell? (Addr.add ⟨b, 0, none⟩ j) = cs[j]? := by
    rw [add_plain]
    exact cell_of_row W b j cs 5 fr h
  rw [this, ← Array.getElem?_toList, hc, List.getElem?_map, List.getElem?_eq_getElem hj, List.getD_eq_getElem?_getD, List.getElem?_eq_getElem hj]
  rfl
end
end Go.Proofs.Ytloldgiggnhemaa.Cm
