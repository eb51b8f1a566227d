import Derived.Test.YtmoefknefopdlaaRdr
set_option linter.unusedVariables false
set_option linter.unusedSimpArgs false
/-! The document's reader: its methods' contracts. -/
namespace Go.Proofs.Ytmoefknefopdlaa.Ref
open Go.RowKit Go.Proofs.YtmoefknefopdlaaW.PrintWords Go.Proofs.YtmoefknefopdlaaW.PrintLast Go.Proofs.YtmoefknefopdlaaW.PrintMore Go.Proofs.Ytmoefknefopdlaa.PAll Go.Proofs.Ytmoefknefopdlaa.Rdr
attribute [local go_sem] max2_int min2_int max_two min_two max_three min_three max_four min_four

/-- The inner number, as a contract over IsRd. -/
theorem inner (k : Nat) (w0 w : World) (g : Nat) (l : List Int) (most n size : Int) (ok : Bool) (hI : IsRd 52 w0 w g l 0) (hB : Below w0.heap.size w0 w) (h : potsherdref3_Reader_number.f k l 0 most = some (n, size, ok, 0)) :
    Calls Try.prog 38 #[.pointer (some ⟨g, 0, none⟩), .int .i64 most] w fun ev w' => ev = .returned (.tuple #[.int .i64 n, .int .i64 size, .bool ok]) ∧ IsRd 52 w0 w' g l 0 ∧ Below w0.heap.size w0 w' ∧ KeepBut w w' g none :=
  potsherdref3_Reader_number.calls k g l 0 most n size ok 0 w0 w hI hB h

set_option maxHeartbeats 4000000 in
set_option maxRecDepth 100000 in
theorem numberOff (w0 w : World) (g : Nat) (l : List Int) (e most : Int) (hI : IsRd 52 w0 w g l e) (hB : Below w0.heap.size w0 w) (he : e ≠ 0) :
    Calls Try.prog 29 #[.pointer (some ⟨g, 0, none⟩), .int .i64 most] w fun ev w' => ev = .returned (.int .i64 0) ∧ IsRd 52 w0 w' g l e ∧ Below w0.heap.size w0 w' ∧ KeepBut w w' g none := by
  have HI := Aside0.mk hI
  have HB := Aside0.mk hB
  obtain ⟨A, c, hb, hg, hC, hc⟩ := hI
  have hcell := IsRd.cell1 hb
  have hb0 : (e != 0) = true := by simpa using he
  clear hB he hb hC
  go_enter Try.func29, Try.ntmps29
  go_wp2
  go_ret
  exact ⟨rfl, HI.out, HB.out, KeepBut.refl _ _ _⟩
set_option maxHeartbeats 4000000 in
set_option maxRecDepth 100000 in
theorem textOff (w0 w : World) (g : Nat) (l : List Int) (e most : Int) (hI : IsRd 52 w0 w g l e) (hB : Below w0.heap.size w0 w) (he : e ≠ 0) :
    Calls Try.prog 30 #[.pointer (some ⟨g, 0, none⟩), .int .i64 most] w fun ev w' => ev = .returned (.slice none 0 0) ∧ IsRd 52 w0 w' g l e ∧ Below w0.heap.size w0 w' ∧ KeepBut w w' g none := by
  have HI := Aside0.mk hI
  have HB := Aside0.mk hB
  obtain ⟨A, c, hb, hg, hC, hc⟩ := hI
  have hcell := IsRd.cell1 hb
  have hb0 : (e != 0) = true := by simpa using he
  clear hB he hb hC
  go_enter Try.func30, Try.ntmps30
  go_wp2
  go_ret
  exact ⟨rfl, HI.out, HB.out, KeepBut.refl _ _ _⟩

set_option maxHeartbeats 4000000 in
set_option maxRecDepth 100000 in
theorem numberBad (k : Nat) (w0 w : World) (g : Nat) (l : List Int) (most n size : Int) (hI : IsRd 52 w0 w g l 0) (hB : Below w0.heap.size w0 w) (h : potsherdref3_Reader_number.f k l 0 most = some (n, size, false, 0)) :
    Calls Try.prog 29 #[.pointer (some ⟨g, 0, none⟩), .int .i64 most] w fun ev w' => ev = .returned (.int .i64 0) ∧ IsRd 52 w0 w' g l 5 ∧ Below w0.heap.size w0 w' ∧ KeepBut w w' g none := by
  have HI := Aside0.mk hI
  have HB := Aside0.mk hB
  have H := Aside0.mk h
  obtain ⟨A, c, hb, hg, hC, hc⟩ := hI
  have hcell := IsRd.cell1 hb
  have HG := Aside0.mk hg
  clear hB hb hC h hg hc
  go_enter Try.func29, Try.ntmps29
  go_wp2_with (go_at_call 38; refine (inner k w0 _ g l most n size false HI.out HB.out H.out).mono ?_; rintro ev w1 ⟨rfl, hI1, hB1, hK1⟩; have HI1 := Aside0.mk hI1; have HB1 := Aside0.mk hB1; have HK1 := Aside0.mk hK1; obtain ⟨A1, c1, hb1, -, -, -⟩ := hI1; obtain ⟨q0, q1, q2, q3⟩ := cells_of hb1; clear hb1 hB1 hK1 hcell)
  go_ret
  exact ⟨rfl, HI1.out.set1 5, HB1.out.setCell HG.out _, HK1.out.set_ 1 _⟩
set_option maxHeartbeats 4000000 in
set_option maxRecDepth 100000 in
theorem number (k : Nat) (w0 w : World) (g : Nat) (l : List Int) (most n size : Int) (hI : IsRd 52 w0 w g l 0) (hB : Below w0.heap.size w0 w) (h : potsherdref3_Reader_number.f k l 0 most = some (n, size, true, 0)) (h0 : 0 ≤ size) (h1 : size ≤ l.length) :
    Calls Try.prog 29 #[.pointer (some ⟨g, 0, none⟩), .int .i64 most] w fun ev w' => ev = .returned (.int .i64 n) ∧ IsRd 52 w0 w' g (l.drop size.toNat) 0 ∧ Below w0.heap.size w0 w' ∧ KeepBut w w' g none := by
  have HI := Aside0.mk hI
  have HB := Aside0.mk hB
  have H := Aside0.mk h
  have H0 := Aside0.mk h0
  have H1 := Aside0.mk h1
  obtain ⟨A, c, hb, hg, hC, hc⟩ := hI
  have hcell := IsRd.cell1 hb
  have HG := Aside0.mk hg
  clear hB hb hC h hg hc h0 h1
  go_enter Try.func29, Try.ntmps29
  go_wp2_with (go_at_call 38; refine (inner k w0 _ g l most n size true HI.out HB.out H.out).mono ?_; rintro ev w1 ⟨rfl, hI1, hB1, hK1⟩; have HI1 := Aside0.mk hI1; have HB1 := Aside0.mk hB1; have HK1 := Aside0.mk hK1; obtain ⟨A1, c1, hb1, -, hC1, hc1⟩ := hI1; obtain ⟨q0, q1, q2, q3⟩ := cells_of hb1; obtain ⟨A', c', hcut, hD, hc'⟩ := cut_rd hC1 hc1 H0.out H1.out; have HD := Aside0.mk hD; have HDZ := Aside0.mk hc'; clear hb1 hB1 hK1 hcell hD hc' hC1 hc1)
  go_ret
  exact ⟨rfl, HI1.out.set0 (by simp) HD.out HDZ.out, HB1.out.setCell HG.out _, HK1.out.set_ 0 _⟩
set_option maxHeartbeats 4000000 in
set_option maxRecDepth 100000 in
theorem textBad (k : Nat) (w0 w : World) (g : Nat) (l : List Int) (most n size : Int) (ok : Bool) (hI : IsRd 52 w0 w g l 0) (hB : Below w0.heap.size w0 w) (h : potsherdref3_Reader_number.f k l 0 most = some (n, size, ok, 0)) (h0 : 0 ≤ size) (h1 : size ≤ l.length) (hl : l.length ≤ 1000000) (hbad : ok = false ∨ n > l.length - size) :
    Calls Try.prog 30 #[.pointer (some ⟨g, 0, none⟩), .int .i64 most] w fun ev w' => ev = .returned (.slice none 0 0) ∧ IsRd 52 w0 w' g l 5 ∧ Below w0.heap.size w0 w' ∧ KeepBut w w' g none := by
  have HI := Aside0.mk hI
  have HB := Aside0.mk hB
  have H := Aside0.mk h
  obtain ⟨A, c, hb, hg, hC, hc⟩ := hI
  have hcell := IsRd.cell1 hb
  have HG := Aside0.mk hg
  have hw : wrap64 ((l.length : Int) - size) = (l.length : Int) - size := by unfold wrap64; omega
  have hm : (l.length : Int) ≤ 1000000 := by omega
  clear hB hb hC h hg hc h0 h1 hl
  cases ok with
  | false =>
    clear hbad
    go_enter Try.func30, Try.ntmps30
    go_wp2_with (go_at_call 38; refine (inner k w0 _ g l most n size false HI.out HB.out H.out).mono ?_; rintro ev w1 ⟨rfl, hI1, hB1, hK1⟩; have HI1 := Aside0.mk hI1; have HB1 := Aside0.mk hB1; have HK1 := Aside0.mk hK1; obtain ⟨A1, c1, hb1, -, -, -⟩ := hI1; obtain ⟨q0, q1, q2, q3⟩ := cells_of hb1; clear hb1 hB1 hK1 hcell)
    go_ret
    exact ⟨rfl, HI1.out.set1 5, HB1.out.setCell HG.out _, HK1.out.set_ 1 _⟩
  | true =>
    have hz2 : n > (l.length : Int) - size := by
      rcases hbad with h | h
      · cases h
      · exact h
    clear hbad
    go_enter Try.func30, Try.ntmps30
    go_wp2_with (go_at_call 38; refine (inner k w0 _ g l most n size true HI.out HB.out H.out).mono ?_; rintro ev w1 ⟨rfl, hI1, hB1, hK1⟩; have HI1 := Aside0.mk hI1; have HB1 := Aside0.mk hB1; have HK1 := Aside0.mk hK1; obtain ⟨A1, c1, hb1, -, -, -⟩ := hI1; obtain ⟨q0, q1, q2, q3⟩ := cells_of hb1; clear hb1 hB1 hK1 hcell)
    go_ret
    exact ⟨rfl, HI1.out.set1 5, HB1.out.setCell HG.out _, HK1.out.set_ 1 _⟩
set_option maxHeartbeats 4000000 in
set_option maxRecDepth 100000 in
theorem text (k : Nat) (w0 w : World) (g : Nat) (l : List Int) (most n size : Int) (hI : IsRd 52 w0 w g l 0) (hB : Below w0.heap.size w0 w) (h : potsherdref3_Reader_number.f k l 0 most = some (n, size, true, 0)) (h0 : 0 < size) (h1 : size ≤ l.length) (hl : l.length ≤ 1000000) (h2 : 0 ≤ n) (h3 : n ≤ l.length - size) :
    Calls Try.prog 30 #[.pointer (some ⟨g, 0, none⟩), .int .i64 most] w fun ev w' => ∃ v : Value, ev = .returned v ∧ Kd.R (Kd.int .u8) 5 w' w0.heap.size (fun k_ => w.heap.size ≤ k_) v ((l.take (size + n).toNat).drop size.toNat) ∧ IsRd 52 w0 w' g (l.drop (size + n).toNat) 0 ∧ Below w0.heap.size w0 w' ∧ KeepBut w w' g none := by
  have HI := Aside0.mk hI
  have HB := Aside0.mk hB
  have H := Aside0.mk h
  obtain ⟨A, c, hb, hg, hC, hc⟩ := hI
  have hcell := IsRd.cell1 hb
  have HG := Aside0.mk hg
  have hw : wrap64 ((l.length : Int) - size) = (l.length : Int) - size := by unfold wrap64; omega
  have hw2 : wrap64 (size + n) = size + n := by unfold wrap64; omega
  have hz2 : ¬ (n > (l.length : Int) - size) := by omega
  have HX := Aside0.mk (show 0 ≤ size ∧ size ≤ size + n ∧ size + n ≤ l.length ∧ 0 ≤ size + n ∧ l.length ≤ 1000000 from ⟨by omega, by omega, by omega, by omega, hl⟩)
  obtain ⟨l', hl'⟩ : ∃ l', l.drop (size + n).toNat = l' := ⟨_, rfl⟩
  obtain ⟨m, hm'⟩ : ∃ m, (l.take (size + n).toNat).drop size.toNat = m := ⟨_, rfl⟩
  have HL' := Aside0.mk hl'
  have HM' := Aside0.mk hm'
  have HML := Aside0.mk (show m.length ≤ 1000000 by rw [← hm', List.length_drop, List.length_take]; omega)
  rw [hl', hm']
  clear hB hb hC h hg hc h0 h1 hl h2 h3 hl' hm'
  go_enter Try.func30, Try.ntmps30
  go_wp2_with (first | (go_at_call 38; refine (inner k w0 _ g l most n size true HI.out HB.out H.out).mono ?_; rintro ev w1 ⟨rfl, hI1, hB1, hK1⟩; have HI1 := Aside0.mk hI1; have HB1 := Aside0.mk hB1; have HK1 := Aside0.mk hK1; obtain ⟨A1, c1, hb1, -, hC1, hc1⟩ := hI1; obtain ⟨q0, q1, q2, q3⟩ := cells_of hb1; have HBK := Aside0.mk hb1; obtain ⟨A', c', hcut, hD, hc'⟩ := cut_rd hC1 hc1 HX.out.2.2.2.1 HX.out.2.2.1; obtain ⟨A2, c2, hmid, hD2, hc2⟩ := mid_rd hC1 hc1 HX.out.1 HX.out.2.1 HX.out.2.2.1; rw [HL'.out] at hcut hD hc'; rw [HM'.out] at hmid hD2 hc2; have HD := Aside0.mk hD; have HDZ := Aside0.mk hc'; have HM := Aside0.mk (Kd.C_below hD2 hB1); have HMZ := Aside0.mk hc2; clear hb1 hB1 hK1 hcell hD hc' hC1 hc1 hD2 hc2) | ((with_reducible refine gate_builtin (b := .append) (xs := #[.const (.slice none 0 0), .tmp 45]) rfl ?_); at_builtin; refine Kd.R_append_rows (Kd.int .u8) (w0 := w1) w1.heap.size rfl (.const (.slice none 0 0)) (.tmp 45) 22 5 (.int .u8 0) 1 rfl Try.underlying22 info5 rfl (by decide) (by omega) (.slice none 0 0) [] m _ _ _ (fun _ => True) (fun _ => False) rfl rfl (Kd.R_nil _ _ _ _ _) HM.out (fun _ _ h => h) (fun _ h => h.elim) (fun _ _ => trivial) (Below.refl _ _) (Nat.le_refl _) ?aL ?_; (case aL => have := HML.out; simp; omega); intro v3 w3 ho hb hg hat; have HO := Aside0.mk ho; have HB3 := Aside0.mk hb; clear ho hb hg hat q0 q1 q2 q3; have hk3 : w3.heap[g]? = _ := (HB3.out.block g HI1.out.lt).trans HBK.out; obtain ⟨q0, q1, q2, q3⟩ := cells_of hk3; clear hk3))
  go_ret
  refine ⟨_, rfl, ?_, (HI1.out.below HB3.out).set0 rfl HD.out HDZ.out, (below_weaken HB1.out HB1.out.size HB3.out).setCell HG.out _, (HK1.out.trans (KeepBut.of_below HB3.out g none) (.inl rfl)).set_ 0 _⟩
  have hR := Kd.R_lower (Kd.R_mono (Kd.R_bound HO.out) (fun k_ hk => Nat.le_trans HK1.out.1 hk.2.1) : Kd.R (Kd.int .u8) 5 w3 w1.heap.size (fun k_ => w.heap.size ≤ k_) v3 m) HB1.out.size
  exact Kd.R_far hR (p := ⟨g, 0, none⟩) (fun k_ hk => by have := HI.out.lt; show k_ ≠ g; omega) _
end Go.Proofs.Ytmoefknefopdlaa.Ref
