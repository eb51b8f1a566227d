import Derived.Test.YtloldgiggnhemaaCm
set_option linter.unusedVariables false
set_option linter.unusedSimpArgs false
/-! The chip's setters and what it tells of itself. -/
namespace Go.Proofs.Ytloldgiggnhemaa.Cm
open Go.RowKit Go.Proofs.YtloldgiggnhemaaW.PrintWords Go.Proofs.YtloldgiggnhemaaW.PrintLast Go.Proofs.YtloldgiggnhemaaW.PrintMore Go.Proofs.Ytloldgiggnhemaa.Kp Go.Proofs.Ytloldgiggnhemaa.Cp
attribute [local go_sem] max2_int min2_int max_two min_two max_three min_three max_four min_four

/-- The post of a call that changes the chip. -/
def Now (w : World) (base : Nat) (ok : Nat → Prop) (g : Nat) (s' : Chp) (w' : World) : Prop := IsChip w' base ok g s' ∧ Kp ok w w'
theorem now_G {w w1 : World} {base : Nat} {ok : Nat → Prop} {g h cap : Nat} {cs : Array Value} {pg : Nat → Nat} {s s' : Chp} (r : Rep w1 base ok g h cap cs pg s) (hk : Kp ok w w1) (j : Nat) (v : Value) (hc : (s.cells h cap).setIfInBounds j v = s'.cells h cap) (hb : s'.blocks = s.blocks) (hi : s'.Inv) : Now w base ok g s' (w1.setCell ⟨g, j, none⟩ v) :=
  ⟨⟨h, cap, cs, pg, r.setG j v hc hb hi⟩, hk.set r.okg v⟩

def failS (s : Chp) (n : Int) : Chp := { s with fail := if n < -1 then -1 else n }
def wornS (s : Chp) (n : Int) : Chp := { s with worn := if n < -1 then -1 else n }
def cutS (s : Chp) (n keep : Int) : Chp := { s with cut := if n < -1 then -1 else n, keep := if keep < 0 then 0 else keep }
def powerS (s : Chp) : Chp := { s with down := false, cut := -1 }
theorem failS_inv {s : Chp} (h : s.Inv) {n : Int} (hn : n ≤ 9223372036854775807) : (failS s n).Inv := { h with f1 := by simp only [failS]; split <;> omega, f2 := by simp only [failS]; split <;> omega }
theorem wornS_inv {s : Chp} (h : s.Inv) {n : Int} (hn : n ≤ 9223372036854775807) : (wornS s n).Inv := { h with w1 := by simp only [wornS]; split <;> omega, w2 := by simp only [wornS]; split <;> omega }
theorem cutS_inv {s : Chp} (h : s.Inv) {n k : Int} (hn : n ≤ 9223372036854775807) (hk : k ≤ 9223372036854775807) : (cutS s n k).Inv :=
  { h with c1 := by simp only [cutS]; split <;> omega, c2 := by simp only [cutS]; split <;> omega, k1 := by simp only [cutS]; split <;> omega, k2 := by simp only [cutS]; split <;> omega }
theorem powerS_inv {s : Chp} (h : s.Inv) : (powerS s).Inv := { h with c1 := by simp only [powerS]; omega, c2 := by simp only [powerS]; omega }

set_option maxHeartbeats 2000000 in
set_option maxRecDepth 100000 in
theorem fail {w : World} {base : Nat} {ok : Nat → Prop} {g : Nat} {s : Chp} (hI : IsChip w base ok g s) (n : Int) (hn : n ≤ 9223372036854775807) :
    Calls Try.prog 13 #[.pointer (some ⟨g, 0, none⟩), .int .i64 n] w fun e w' => (∃ v, e = .returned v) ∧ Now w base ok g (failS s n) w' := by
  obtain ⟨h, cap, cs, pg, r⟩ := hI
  obtain ⟨-, ⟨c5, -⟩, fz⟩ := ten r
  have f5 := fz 5
  have HR := Aside0.mk r
  have HN := Aside0.mk hn
  clear r fz hn
  by_cases hlt : n < -1
  · go_enter Try.func13, Try.ntmps13
    go_wp2
    go_end0
    exact ⟨⟨_, rfl⟩, now_G HR.out (Kp.refl _ _) 5 _ (by simp only [Chp.cells, failS]; rw [if_pos (by omega)]; rfl) rfl (failS_inv HR.out.inv HN.out)⟩
  · go_enter Try.func13, Try.ntmps13
    go_wp2
    go_end0
    exact ⟨⟨_, rfl⟩, now_G HR.out (Kp.refl _ _) 5 _ (by simp only [Chp.cells, failS]; rw [if_neg (by omega)]; rfl) rfl (failS_inv HR.out.inv HN.out)⟩
set_option maxHeartbeats 2000000 in
set_option maxRecDepth 100000 in
theorem worn {w : World} {base : Nat} {ok : Nat → Prop} {g : Nat} {s : Chp} (hI : IsChip w base ok g s) (n : Int) (hn : n ≤ 9223372036854775807) :
    Calls Try.prog 18 #[.pointer (some ⟨g, 0, none⟩), .int .i64 n] w fun e w' => (∃ v, e = .returned v) ∧ Now w base ok g (wornS s n) w' := by
  obtain ⟨h, cap, cs, pg, r⟩ := hI
  obtain ⟨-, ⟨-, c6, -⟩, fz⟩ := ten r
  have f6 := fz 6
  have HR := Aside0.mk r
  have HN := Aside0.mk hn
  clear r fz hn
  by_cases hlt : n < -1
  · go_enter Try.func18, Try.ntmps18
    go_wp2
    go_end0
    exact ⟨⟨_, rfl⟩, now_G HR.out (Kp.refl _ _) 6 _ (by simp only [Chp.cells, wornS]; rw [if_pos (by omega)]; rfl) rfl (wornS_inv HR.out.inv HN.out)⟩
  · go_enter Try.func18, Try.ntmps18
    go_wp2
    go_end0
    exact ⟨⟨_, rfl⟩, now_G HR.out (Kp.refl _ _) 6 _ (by simp only [Chp.cells, wornS]; rw [if_neg (by omega)]; rfl) rfl (wornS_inv HR.out.inv HN.out)⟩
theorem now_G2 {w w1 : World} {base : Nat} {ok : Nat → Prop} {g : Nat} {s s' : Chp} (r : Now w base ok g s w1) (j : Nat) (v : Value) (hc : ∀ h cap, (s.cells h cap).setIfInBounds j v = s'.cells h cap) (hb : s'.blocks = s.blocks) (hi : s'.Inv) : Now w base ok g s' (w1.setCell ⟨g, j, none⟩ v) := by
  obtain ⟨⟨h, cap, cs, pg, r⟩, hk⟩ := r
  exact now_G r hk j v (hc h cap) hb hi
set_option maxHeartbeats 2000000 in
set_option maxRecDepth 100000 in
theorem cut {w : World} {base : Nat} {ok : Nat → Prop} {g : Nat} {s : Chp} (hI : IsChip w base ok g s) (n k : Int) (hn : n ≤ 9223372036854775807) (hk : k ≤ 9223372036854775807) :
    Calls Try.prog 21 #[.pointer (some ⟨g, 0, none⟩), .int .i64 n, .int .i64 k] w fun e w' => (∃ v, e = .returned v) ∧ Now w base ok g (cutS s n k) w' := by
  have HI := Aside0.mk hI
  obtain ⟨h, cap, cs, pg, r⟩ := hI
  obtain ⟨-, ⟨-, -, c7, c8, -⟩, fz⟩ := ten r
  have f7 := fz 7
  have f8 := fz 8
  have HN := Aside0.mk hn
  have HK := Aside0.mk hk
  have HV := Aside0.mk r.inv
  clear r fz hn hk
  have fin : ∀ x y : Int, x = (if n < -1 then -1 else n) → y = (if k < 0 then 0 else k) → Now w base ok g (cutS s n k) ((w.setCell ⟨g, 7, none⟩ (.int .i64 x)).setCell ⟨g, 8, none⟩ (.int .i64 y)) := by
    rintro x y rfl rfl
    have h1 : Now w base ok g { s with cut := if n < -1 then -1 else n } (w.setCell ⟨g, 7, none⟩ (.int .i64 (if n < -1 then -1 else n))) :=
      now_G2 ⟨HI.out, Kp.refl _ _⟩ 7 _ (fun h cap => by simp [Chp.cells]) rfl { HV.out with c1 := by simp only; split <;> omega, c2 := by have := HN.out; simp only; split <;> omega }
    exact now_G2 h1 8 _ (fun h cap => by simp [Chp.cells, cutS]) rfl (cutS_inv HV.out HN.out HK.out)
  have FIN := Aside0.mk fin
  clear fin
  by_cases hlt : n < -1
  · by_cases hk0 : k < 0
    · go_enter Try.func21, Try.ntmps21
      go_wp2
      go_end0
      exact ⟨⟨_, rfl⟩, FIN.out _ _ (by rw [if_pos (by omega)]) (by rw [if_pos (by omega)])⟩
    · go_enter Try.func21, Try.ntmps21
      go_wp2
      go_end0
      exact ⟨⟨_, rfl⟩, FIN.out _ _ (by rw [if_pos (by omega)]) (by rw [if_neg (by omega)])⟩
  · by_cases hk0 : k < 0
    · go_enter Try.func21, Try.ntmps21
      go_wp2
      go_end0
      exact ⟨⟨_, rfl⟩, FIN.out _ _ (by rw [if_neg (by omega)]) (by rw [if_pos (by omega)])⟩
    · go_enter Try.func21, Try.ntmps21
      go_wp2
      go_end0
      exact ⟨⟨_, rfl⟩, FIN.out _ _ (by rw [if_neg (by omega)]) (by rw [if_neg (by omega)])⟩
set_option maxHeartbeats 2000000 in
set_option maxRecDepth 100000 in
theorem power {w : World} {base : Nat} {ok : Nat → Prop} {g : Nat} {s : Chp} (hI : IsChip w base ok g s) :
    Calls Try.prog 22 #[.pointer (some ⟨g, 0, none⟩)] w fun e w' => (∃ v, e = .returned v) ∧ Now w base ok g (powerS s) w' := by
  have HI := Aside0.mk hI
  obtain ⟨h, cap, cs, pg, r⟩ := hI
  obtain ⟨-, ⟨-, -, c7, -, c9⟩, fz⟩ := ten r
  have f7 := fz 7
  have f9 := fz 9
  have HV := Aside0.mk r.inv
  clear r fz
  go_enter Try.func22, Try.ntmps22
  go_wp2
  go_end0
  have h1 : Now w base ok g { s with down := false } (w.setCell ⟨g, 9, none⟩ (.bool false)) := now_G2 ⟨HI.out, Kp.refl _ _⟩ 9 _ (fun h cap => by simp [Chp.cells]) rfl { HV.out with }
  exact ⟨⟨_, rfl⟩, now_G2 h1 7 _ (fun h cap => by simp [Chp.cells, powerS]) rfl (powerS_inv HV.out)⟩
set_option maxHeartbeats 2000000 in
set_option maxRecDepth 100000 in
theorem down {w : World} {base : Nat} {ok : Nat → Prop} {g : Nat} {s : Chp} (hI : IsChip w base ok g s) :
    Calls Try.prog 32 #[.pointer (some ⟨g, 0, none⟩)] w fun e w' => e = .returned (.bool s.down) ∧ w' = w := by
  obtain ⟨h, cap, cs, pg, r⟩ := hI
  obtain ⟨-, ⟨-, -, -, -, c9⟩, -⟩ := ten r
  clear r
  go_enter Try.func32, Try.ntmps32
  go_wp2
  go_ret
  exact ⟨rfl, rfl⟩
set_option maxHeartbeats 2000000 in
set_option maxRecDepth 100000 in
theorem bill {w : World} {base : Nat} {ok : Nat → Prop} {g : Nat} {s : Chp} (hI : IsChip w base ok g s) :
    Calls Try.prog 20 #[.pointer (some ⟨g, 0, none⟩)] w fun e w' => e = .returned (.agg #[.int .i64 s.br, .int .i64 s.bp, .int .i64 s.be]) ∧ Below w.heap.size w w' := by
  have hI1 := hI.below (below_alloc (Below.refl _ _) (.cells #[.int .i64 0, .int .i64 0, .int .i64 0] 44))
  obtain ⟨h, cap, cs, pg, r⟩ := hI1
  obtain ⟨⟨-, -, c2, c3, c4⟩, -, -⟩ := ten r
  clear r
  go_enter Try.func20, Try.ntmps20
  go_wp2
  exact bodyPost_ret (results_single rfl (.cell w.heap.size 44 #[.int .i64 s.br, .int .i64 s.bp, .int .i64 s.be] (0, 0) _ rfl (by simpa using heap_alloc_new w _) Try.underlying44 rfl (by kernel_rfl) .nil)) rfl ⟨rfl, below_alloc (Below.refl _ _) _⟩
end Go.Proofs.Ytloldgiggnhemaa.Cm
