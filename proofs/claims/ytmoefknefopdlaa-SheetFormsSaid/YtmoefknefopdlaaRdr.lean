import Derived.Test.YtmoefknefopdlaaG3
import Derived.Test.YtmoefknefopdlaaCloneByte
import Derived.WalkSpells
set_option linter.unusedVariables false
set_option linter.unusedSimpArgs false
/-! The reader of the package bytes: its methods' contracts. -/
namespace Go.Proofs.Ytmoefknefopdlaa.Rdr
open Go.RowKit Go.Proofs.YtmoefknefopdlaaW.PrintWords Go.Proofs.YtmoefknefopdlaaW.PrintLast Go.Proofs.YtmoefknefopdlaaW.PrintMore Go.Proofs.Ytmoefknefopdlaa.PAll
attribute [local go_sem] max2_int min2_int max_two min_two max_three min_three max_four min_four

/-- A reader (a struct of type t) in block g: what is left, and its error. What is left lies below w0. -/
def IsRd (t : Nat) (w0 W : World) (g : Nat) (l : List Int) (e : Int) : Prop := ∃ A c, W.heap[g]? = some (.cells #[.slice A l.length c, .int .i64 e] t (0, 0)) ∧ w0.heap.size ≤ g ∧ Kd.C (Kd.int .u8) w0 A l.length l ∧ l.length ≤ c
theorem IsRd.keep {t : Nat} {w0 W W1 : World} {g : Nat} {l : List Int} {e : Int} (h : IsRd t w0 W g l e) (hk : W1.heap[g]? = W.heap[g]?) : IsRd t w0 W1 g l e := by
  obtain ⟨A, c, hb, r⟩ := h
  exact ⟨A, c, hk.trans hb, r⟩
theorem IsRd.lt {t : Nat} {w0 W : World} {g : Nat} {l : List Int} {e : Int} (h : IsRd t w0 W g l e) : g < W.heap.size := by
  obtain ⟨A, c, hb, _⟩ := h
  exact blk_lt hb
theorem IsRd.ge {t : Nat} {w0 W : World} {g : Nat} {l : List Int} {e : Int} (h : IsRd t w0 W g l e) : w0.heap.size ≤ g := by
  obtain ⟨A, c, _, hg, _⟩ := h
  exact hg
theorem IsRd.below {t : Nat} {w0 W W1 : World} {g : Nat} {l : List Int} {e : Int} (h : IsRd t w0 W g l e) (hb : Below W.heap.size W W1) : IsRd t w0 W1 g l e := h.keep (hb.block g h.lt)
theorem IsRd.but {t : Nat} {w0 W W1 : World} {g g' : Nat} {l : List Int} {e : Int} (h : IsRd t w0 W g l e) (hk : KeepBut W W1 g' none) (hg : g ≠ g') : IsRd t w0 W1 g l e := h.keep (hk.2 g h.lt hg (by simp))
theorem IsRd.cell0 {t : Nat} {W : World} {g : Nat} {A : Option Addr} {n c : Nat} {e : Int} (h : W.heap[g]? = some (.cells #[.slice A n c, .int .i64 e] t (0, 0))) : W.cell? ⟨g, 0, none⟩ = some (.slice A n c) := (blk_cell h 0).trans rfl
theorem IsRd.cell1 {t : Nat} {W : World} {g : Nat} {A : Option Addr} {n c : Nat} {e : Int} (h : W.heap[g]? = some (.cells #[.slice A n c, .int .i64 e] t (0, 0))) : W.cell? ⟨g, 1, none⟩ = some (.int .i64 e) := (blk_cell h 1).trans rfl
theorem IsRd.set1 {t : Nat} {w0 W : World} {g : Nat} {l : List Int} {e : Int} (h : IsRd t w0 W g l e) (x : Int) : IsRd t w0 (W.setCell ⟨g, 1, none⟩ (.int .i64 x)) g l x := by
  obtain ⟨A, c, hb, r⟩ := h
  exact ⟨A, c, by simpa using blk_set hb 1 (.int .i64 x), r⟩
theorem IsRd.set0 {t : Nat} {w0 W : World} {g : Nat} {l l' : List Int} {e : Int} (h : IsRd t w0 W g l e) {A' : Option Addr} {n' c' : Nat} (hn : n' = l'.length) (hC : Kd.C (Kd.int .u8) w0 A' l'.length l') (hc : l'.length ≤ c') : IsRd t w0 (W.setCell ⟨g, 0, none⟩ (.slice A' n' c')) g l' e := by
  obtain ⟨A, c, hb, hg, _⟩ := h
  subst hn
  exact ⟨A', c', by simpa using blk_set hb 0 (.slice A' l'.length c'), hg, hC, hc⟩

set_option maxHeartbeats 2000000 in
set_option maxRecDepth 100000 in
theorem left (w0 w : World) (g : Nat) (l : List Int) (e : Int) (hI : IsRd 57 w0 w g l e) : Calls Try.prog 28 #[.pointer (some ⟨g, 0, none⟩)] w fun ev w' => ev = .returned (.int .i64 (l.length : Int)) ∧ Below w.heap.size w w' := by
  obtain ⟨A, c, hb, hg, hC, hc⟩ := hI
  have h0 := IsRd.cell0 hb
  clear hb hC
  go_enter Try.func28, Try.ntmps28
  go_wp2
  go_ret
  exact ⟨rfl, Below.refl _ _⟩
set_option maxHeartbeats 2000000 in
set_option maxRecDepth 100000 in
theorem err (w0 w : World) (g : Nat) (l : List Int) (e : Int) (hI : IsRd 57 w0 w g l e) : Calls Try.prog 27 #[.pointer (some ⟨g, 0, none⟩)] w fun ev w' => ev = .returned (.int .i64 e) ∧ Below w.heap.size w w' := by
  obtain ⟨A, c, hb, hg, hC, hc⟩ := hI
  have h1 := IsRd.cell1 hb
  clear hb hC
  go_enter Try.func27, Try.ntmps27
  go_wp2
  go_ret
  exact ⟨rfl, Below.refl _ _⟩
set_option maxHeartbeats 2000000 in
set_option maxRecDepth 100000 in
theorem off (w0 w : World) (g : Nat) (l : List Int) (e : Int) (hI : IsRd 57 w0 w g l e) : Calls Try.prog 36 #[.pointer (some ⟨g, 0, none⟩)] w fun ev w' => ev = .returned (.bool (e != 0)) ∧ Below w.heap.size w w' := by
  obtain ⟨A, c, hb, hg, hC, hc⟩ := hI
  have h1 := IsRd.cell1 hb
  clear hb hC
  go_enter Try.func36, Try.ntmps36
  go_wp2
  go_ret
  exact ⟨rfl, Below.refl _ _⟩

set_option maxHeartbeats 4000000 in
set_option maxRecDepth 100000 in
theorem numberOff (w0 w : World) (g : Nat) (l : List Int) (e most : Int) (hI : IsRd 57 w0 w g l e) (hB : Below w0.heap.size w0 w) (he : e ≠ 0) :
    Calls Try.prog 25 #[.pointer (some ⟨g, 0, none⟩), .int .i64 most] w fun ev w' => ev = .returned (.int .i64 0) ∧ IsRd 57 w0 w' g l e ∧ Below w0.heap.size w0 w' ∧ KeepBut w w' g none := by
  have HI := Aside0.mk hI
  have HB := Aside0.mk hB
  have hb0 : (e != 0) = true := by simpa using he
  clear hI hB he
  go_enter Try.func25, Try.ntmps25
  go_wp2_with (go_at_call 36; refine (off w0 _ g l e HI.out).mono ?_; rintro ev w1 ⟨rfl, hb⟩; have HB1 := Aside0.mk hb; clear hb)
  go_ret
  exact ⟨rfl, HI.out.below HB1.out, below_weaken HB.out HB.out.size HB1.out, KeepBut.of_below HB1.out _ _⟩


/-- What a walk wants of the block's two cells. -/
theorem cells_of {w : World} {g t n c : Nat} {A : Option Addr} {e : Int} (h : w.heap[g]? = some (.cells #[.slice A n c, .int .i64 e] t (0, 0))) :
    w.cell? ⟨g, 0, none⟩ = some (.slice A n c) ∧ w.cell? ⟨g, 1, none⟩ = some (.int .i64 e) ∧ w.frozen? ⟨g, 0, none⟩ = false ∧ w.frozen? ⟨g, 1, none⟩ = false := ⟨IsRd.cell0 h, IsRd.cell1 h, blk_frozen h 0, blk_frozen h 1⟩
theorem set_err {w : World} {g t n c : Nat} {A : Option Addr} {e : Int} (h : w.heap[g]? = some (.cells #[.slice A n c, .int .i64 e] t (0, 0))) (x : Int) : (w.setCell ⟨g, 1, none⟩ (.int .i64 x)).heap[g]? = some (.cells #[.slice A n c, .int .i64 x] t (0, 0)) := by simpa using blk_set h 1 (.int .i64 x)
theorem cut_rd {w0 : World} {A : Option Addr} {c : Nat} {l : List Int} {size : Int} (hC : Kd.C (Kd.int .u8) w0 A l.length l) (hc : l.length ≤ c) (h0 : 0 ≤ size) (h1 : size ≤ l.length) :
    ∃ A' c', (∀ W : World, (Instr.slice 22 (.slice A l.length c) (some (.int .i64 size)) none none).run Try.prog W = .ok (.slice A' (l.drop size.toNat).length c') W) ∧ Kd.C (Kd.int .u8) w0 A' (l.drop size.toNat).length (l.drop size.toNat) ∧ (l.drop size.toNat).length ≤ c' := by
  obtain ⟨i5, hi5, hz5, hs5, hb5⟩ := info_parts info5
  have hcut := cut_from (P := Try.prog) 22 5 .i64 Try.underlying22 hi5 1 hs5 A l.length c size h0 h1
  have hd := Kd.C_drop (m := size.toNat) (c := c) hC (by omega) hc
  have hl : l.length - size.toNat = (l.drop size.toNat).length := by rw [List.length_drop]
  rw [hl] at hcut
  exact ⟨_, _, hcut, hd, by rw [List.length_drop]; omega⟩
theorem mid_rd {w0 : World} {A : Option Addr} {c : Nat} {l : List Int} {lo hi : Int} (hC : Kd.C (Kd.int .u8) w0 A l.length l) (hc : l.length ≤ c) (h0 : 0 ≤ lo) (h1 : lo ≤ hi) (h2 : hi ≤ l.length) :
    ∃ A' c', (∀ W : World, (Instr.slice 22 (.slice A l.length c) (some (.int .i64 lo)) (some (.int .i64 hi)) none).run Try.prog W = .ok (.slice A' ((l.take hi.toNat).drop lo.toNat).length c') W) ∧ Kd.C (Kd.int .u8) w0 A' ((l.take hi.toNat).drop lo.toNat).length ((l.take hi.toNat).drop lo.toNat) ∧ ((l.take hi.toNat).drop lo.toNat).length ≤ c' := by
  obtain ⟨i5, hi5, hz5, hs5, hb5⟩ := info_parts info5
  have hcut := cut_mid (P := Try.prog) 22 5 .i64 .i64 Try.underlying22 hi5 1 hs5 A l.length c lo hi h0 h1 h2 hc
  have hd := Kd.C_mid (lo := lo.toNat) (hi := hi.toNat) (c := c) hC (by omega) (by omega) hc
  have hl : hi.toNat - lo.toNat = ((l.take hi.toNat).drop lo.toNat).length := by rw [List.length_drop, List.length_take]; omega
  rw [hl] at hcut
  exact ⟨_, _, hcut, hd, by rw [← hl]; omega⟩
theorem upto_rd {w0 : World} {A : Option Addr} {c : Nat} {l : List Int} {hi : Int} (hC : Kd.C (Kd.int .u8) w0 A l.length l) (hc : l.length ≤ c) (h0 : 0 ≤ hi) (h2 : hi ≤ l.length) :
    ∃ A' c', (∀ W : World, (Instr.slice 22 (.slice A l.length c) none (some (.int .i64 hi)) none).run Try.prog W = .ok (.slice A' (l.take hi.toNat).length c') W) ∧ Kd.C (Kd.int .u8) w0 A' (l.take hi.toNat).length (l.take hi.toNat) ∧ (l.take hi.toNat).length ≤ c' := by
  obtain ⟨i5, hi5, hz5, hs5, hb5⟩ := info_parts info5
  have hcut := cut_to (P := Try.prog) 22 5 .i64 Try.underlying22 hi5 A l.length c hi h0 h2 hc
  have hd := Kd.C_take (m := hi.toNat) hC (by omega)
  have hl : hi.toNat = (l.take hi.toNat).length := by rw [List.length_take]; omega
  rw [hl] at hcut
  exact ⟨_, _, hcut, hd, by rw [← hl]; omega⟩

set_option maxHeartbeats 4000000 in
set_option maxRecDepth 100000 in
theorem number (k : Nat) (w0 w : World) (g : Nat) (l : List Int) (most n size : Int) (hI : IsRd 57 w0 w g l 0) (hB : Below w0.heap.size w0 w) (h : bytes_number.f k l most = some (n, size)) (h0 : 0 ≤ size) (h1 : size ≤ l.length) :
    Calls Try.prog 25 #[.pointer (some ⟨g, 0, none⟩), .int .i64 most] w fun ev w' => ev = .returned (.int .i64 n) ∧ IsRd 57 w0 w' g (l.drop size.toNat) (if size = 0 then 5 else 0) ∧ Below w0.heap.size w0 w' ∧ KeepBut w w' g none := by
  have HI := Aside0.mk hI
  obtain ⟨A, c, hb, hg, hC, hc⟩ := hI
  obtain ⟨A', c', hcut, hD, hc'⟩ := cut_rd hC hc h0 h1
  have hcell := IsRd.cell0 hb
  have HK := Aside0.mk hb
  have HC := Aside0.mk hC
  have HCZ := Aside0.mk hc
  have HG := Aside0.mk hg
  have HB := Aside0.mk hB
  have H := Aside0.mk h
  have HD := Aside0.mk hD
  have HDZ := Aside0.mk hc'
  obtain ⟨l', hl'⟩ : ∃ l', l.drop size.toNat = l' := ⟨_, rfl⟩
  rw [hl'] at hcut HD HDZ ⊢
  clear hb hC hB h hc hg h1 h0 hl' hD hc'
  by_cases hz : size = 0
  · subst hz
    rw [if_pos rfl]
    go_enter Try.func25, Try.ntmps25
    go_wp2_with (go_at_call 36; refine (off w0 _ g l 0 HI.out).mono ?_; rintro ev w1 ⟨rfl, hb⟩; have HB1 := Aside0.mk hb; replace hcell := pw_cell_below hb hcell; clear hb)
    go_wp2_with (go_at_call 37; refine (bytes_number.calls k A c l most n 0 _ (Kd.C_below HC.out (below_weaken HB.out HB.out.size HB1.out)) HCZ.out H.out).mono ?_; rintro ev w2 ⟨rfl, hb⟩; have HB2 := Aside0.mk (below_step HB1.out hb); clear hb hcell; have hk2 : w2.heap[g]? = _ := (HB2.out.block g HI.out.lt).trans HK.out; obtain ⟨q0, q1, q2, q3⟩ := cells_of hk2; have hk3 := set_err hk2 5; obtain ⟨r0, r1, r2, r3⟩ := cells_of hk3; clear hk2 hk3)
    go_ret
    exact ⟨rfl, ((HI.out.below HB2.out).set1 5).set0 rfl HD.out HDZ.out, ((below_weaken HB.out HB.out.size HB2.out).setCell HG.out _).setCell HG.out _, ((KeepBut.of_below HB2.out g none).set_ 1 _).set_ 0 _⟩
  · rw [if_neg hz]
    have hz1 : (size == 0) = false := by simpa using hz
    clear hz
    go_enter Try.func25, Try.ntmps25
    go_wp2_with (go_at_call 36; refine (off w0 _ g l 0 HI.out).mono ?_; rintro ev w1 ⟨rfl, hb⟩; have HB1 := Aside0.mk hb; replace hcell := pw_cell_below hb hcell; clear hb)
    go_wp2_with (go_at_call 37; refine (bytes_number.calls k A c l most n size _ (Kd.C_below HC.out (below_weaken HB.out HB.out.size HB1.out)) HCZ.out H.out).mono ?_; rintro ev w2 ⟨rfl, hb⟩; have HB2 := Aside0.mk (below_step HB1.out hb); clear hb hcell; have hk2 : w2.heap[g]? = _ := (HB2.out.block g HI.out.lt).trans HK.out; obtain ⟨q0, q1, q2, q3⟩ := cells_of hk2; clear hk2)
    go_ret
    exact ⟨rfl, (HI.out.below HB2.out).set0 rfl HD.out HDZ.out, (below_weaken HB.out HB.out.size HB2.out).setCell HG.out _, (KeepBut.of_below HB2.out g none).set_ 0 _⟩

set_option maxHeartbeats 4000000 in
set_option maxRecDepth 100000 in
theorem textOff (w0 w : World) (g : Nat) (l : List Int) (e most : Int) (hI : IsRd 57 w0 w g l e) (hB : Below w0.heap.size w0 w) (he : e ≠ 0) :
    Calls Try.prog 26 #[.pointer (some ⟨g, 0, none⟩), .int .i64 most] w fun ev w' => ev = .returned (.slice none 0 0) ∧ IsRd 57 w0 w' g l e ∧ Below w0.heap.size w0 w' ∧ KeepBut w w' g none := by
  have HI := Aside0.mk hI
  have HB := Aside0.mk hB
  have hb0 : (e != 0) = true := by simpa using he
  clear hI hB he
  go_enter Try.func26, Try.ntmps26
  go_wp2_with (go_at_call 36; refine (off w0 _ g l e HI.out).mono ?_; rintro ev w1 ⟨rfl, hb⟩; have HB1 := Aside0.mk hb; clear hb)
  go_ret
  exact ⟨rfl, HI.out.below HB1.out, below_weaken HB.out HB.out.size HB1.out, KeepBut.of_below HB1.out _ _⟩

set_option maxHeartbeats 4000000 in
set_option maxRecDepth 100000 in
theorem textBad (k : Nat) (w0 w : World) (g : Nat) (l : List Int) (most n size : Int) (hI : IsRd 57 w0 w g l 0) (hB : Below w0.heap.size w0 w) (h : bytes_number.f k l most = some (n, size)) (h0 : 0 ≤ size) (h1 : size ≤ l.length) (hl : l.length ≤ 1000000) (hbad : size = 0 ∨ n > l.length - size) :
    Calls Try.prog 26 #[.pointer (some ⟨g, 0, none⟩), .int .i64 most] w fun ev w' => ev = .returned (.slice none 0 0) ∧ IsRd 57 w0 w' g l 5 ∧ Below w0.heap.size w0 w' ∧ KeepBut w w' g none := by
  have HI := Aside0.mk hI
  obtain ⟨A, c, hb, hg, hC, hc⟩ := hI
  have hcell := IsRd.cell0 hb
  have HK := Aside0.mk hb
  have HC := Aside0.mk hC
  have HCZ := Aside0.mk hc
  have HG := Aside0.mk hg
  have HB := Aside0.mk hB
  have H := Aside0.mk h
  clear hb hC hB h hc hg
  have hw : wrap64 ((l.length : Int) - size) = (l.length : Int) - size := by unfold wrap64; omega
  have hm : (l.length : Int) ≤ 1000000 := by omega
  clear h0 h1 hl
  by_cases hz : size = 0
  · subst hz
    clear hbad
    go_enter Try.func26, Try.ntmps26
    go_wp2_with (go_at_call 36; refine (off w0 _ g l 0 HI.out).mono ?_; rintro ev w1 ⟨rfl, hb⟩; have HB1 := Aside0.mk hb; replace hcell := pw_cell_below hb hcell; clear hb)
    go_wp2_with (go_at_call 37; refine (bytes_number.calls k A c l most n 0 _ (Kd.C_below HC.out (below_weaken HB.out HB.out.size HB1.out)) HCZ.out H.out).mono ?_; rintro ev w2 ⟨rfl, hb⟩; have HB2 := Aside0.mk (below_step HB1.out hb); clear hb hcell; have hk2 : w2.heap[g]? = _ := (HB2.out.block g HI.out.lt).trans HK.out; obtain ⟨q0, q1, q2, q3⟩ := cells_of hk2; clear hk2)
    go_ret
    exact ⟨rfl, (HI.out.below HB2.out).set1 5, (below_weaken HB.out HB.out.size HB2.out).setCell HG.out _, (KeepBut.of_below HB2.out g none).set_ 1 _⟩
  · have hz1 : (size == 0) = false := by simpa using hz
    have hz2 : n > (l.length : Int) - size := by omega
    clear hz hbad
    go_enter Try.func26, Try.ntmps26
    go_wp2_with (go_at_call 36; refine (off w0 _ g l 0 HI.out).mono ?_; rintro ev w1 ⟨rfl, hb⟩; have HB1 := Aside0.mk hb; replace hcell := pw_cell_below hb hcell; clear hb)
    go_wp2_with (go_at_call 37; refine (bytes_number.calls k A c l most n size _ (Kd.C_below HC.out (below_weaken HB.out HB.out.size HB1.out)) HCZ.out H.out).mono ?_; rintro ev w2 ⟨rfl, hb⟩; have HB2 := Aside0.mk (below_step HB1.out hb); clear hb hcell; have hk2 : w2.heap[g]? = _ := (HB2.out.block g HI.out.lt).trans HK.out; obtain ⟨q0, q1, q2, q3⟩ := cells_of hk2; clear hk2)
    go_ret
    exact ⟨rfl, (HI.out.below HB2.out).set1 5, (below_weaken HB.out HB.out.size HB2.out).setCell HG.out _, (KeepBut.of_below HB2.out g none).set_ 1 _⟩

set_option maxHeartbeats 4000000 in
set_option maxRecDepth 100000 in
theorem text (k : Nat) (w0 w : World) (g : Nat) (l : List Int) (most n size : Int) (hI : IsRd 57 w0 w g l 0) (hB : Below w0.heap.size w0 w) (h : bytes_number.f k l most = some (n, size)) (h0 : 0 < size) (h1 : size ≤ l.length) (hl : l.length ≤ 1000000) (h2 : 0 ≤ n) (h3 : n ≤ l.length - size) :
    Calls Try.prog 26 #[.pointer (some ⟨g, 0, none⟩), .int .i64 most] w fun ev w' => ∃ v : Value, ev = .returned v ∧ Kd.R (Kd.int .u8) 5 w' w0.heap.size (fun k_ => w.heap.size ≤ k_) v ((l.take (size + n).toNat).drop size.toNat) ∧ IsRd 57 w0 w' g (l.drop (size + n).toNat) 0 ∧ Below w0.heap.size w0 w' ∧ KeepBut w w' g none := by
  have HI := Aside0.mk hI
  obtain ⟨A, c, hb, hg, hC, hc⟩ := hI
  have hcell := IsRd.cell0 hb
  have HK := Aside0.mk hb
  have HC := Aside0.mk hC
  have HCZ := Aside0.mk hc
  have HG := Aside0.mk hg
  have HB := Aside0.mk hB
  have H := Aside0.mk h
  obtain ⟨A', c', hcut, hD, hc'⟩ := cut_rd (size := size + n) hC hc (by omega) (by omega)
  obtain ⟨A2, c2, hmid, hD2, hc2⟩ := mid_rd (lo := size) (hi := size + n) hC hc (by omega) (by omega) (by omega)
  have HD := Aside0.mk hD
  have HDZ := Aside0.mk hc'
  have HM := Aside0.mk hD2
  have HMZ := Aside0.mk hc2
  have HLen := Aside0.mk (show ((l.take (size + n).toNat).drop size.toNat).length * 1 ≤ 140737488355328 by rw [List.length_drop, List.length_take]; omega)
  obtain ⟨l', hl'⟩ : ∃ l', l.drop (size + n).toNat = l' := ⟨_, rfl⟩
  rw [hl'] at hcut HD HDZ ⊢
  obtain ⟨m, hm'⟩ : ∃ m, (l.take (size + n).toNat).drop size.toNat = m := ⟨_, rfl⟩
  rw [hm'] at hmid HM HMZ HLen ⊢
  have hw : wrap64 ((l.length : Int) - size) = (l.length : Int) - size := by unfold wrap64; omega
  have hw2 : wrap64 (size + n) = size + n := by unfold wrap64; omega
  have hz1 : (size == 0) = false := by have : size ≠ 0 := by omega
                                       simpa using this
  have hz2 : ¬ (n > (l.length : Int) - size) := by omega
  clear hb hC hB h hc hg h1 h0 hl' hD hc' hm' hD2 hc2 hl h2 h3
  go_enter Try.func26, Try.ntmps26
  go_wp2_with (go_at_call 36; refine (off w0 _ g l 0 HI.out).mono ?_; rintro ev w1 ⟨rfl, hb⟩; have HB1 := Aside0.mk hb; replace hcell := pw_cell_below hb hcell; clear hb)
  go_wp2_with (go_at_call 37; refine (bytes_number.calls k A c l most n size _ (Kd.C_below HC.out (below_weaken HB.out HB.out.size HB1.out)) HCZ.out H.out).mono ?_; rintro ev w2 ⟨rfl, hb⟩; have HB2 := Aside0.mk (below_step HB1.out hb); clear hb hcell; have hk2 : w2.heap[g]? = _ := (HB2.out.block g HI.out.lt).trans HK.out; obtain ⟨q0, q1, q2, q3⟩ := cells_of hk2; clear hk2)
  have HW := Aside0.mk (below_weaken HB.out HB.out.size HB2.out)
  refine (CloneByte.calls A2 c2 m _ (Kd.C_below HM.out HW.out) HMZ.out HLen.out).mono ?_
  rintro ev w3 ⟨v, rfl, hR, hb⟩
  have HR := Aside0.mk (Kd.R_lower (Kd.R_mono (Kd.R_bound hR) (fun k_ hk => Nat.le_trans HB2.out.size hk.2.1) : Kd.R (Kd.int .u8) 5 w3 w2.heap.size (fun k_ => w.heap.size ≤ k_) v m) HW.out.size)
  have HB3 := Aside0.mk (below_step HB2.out hb)
  clear hR hb q0 q1 q2 q3
  have hk3 : w3.heap[g]? = _ := (HB3.out.block g HI.out.lt).trans HK.out
  obtain ⟨q0, q1, q2, q3⟩ := cells_of hk3
  clear hk3
  go_wp2
  go_ret
  exact ⟨_, rfl, Kd.R_far HR.out (p := ⟨g, 0, none⟩) (fun k_ hk => by have := HI.out.lt; show k_ ≠ g; omega) _, (HI.out.below HB3.out).set0 rfl HD.out HDZ.out, (below_weaken HB.out HB.out.size HB3.out).setCell HG.out _, (KeepBut.of_below HB3.out g none).set_ 0 _⟩

set_option maxHeartbeats 4000000 in
set_option maxRecDepth 100000 in
/-- A reader of bytes: it reads a copy. w0 may be any world in which the copy lies: the world right behind the copy. -/
theorem newReader (w : World) (A : Option Addr) (c : Nat) (l : List Int) (hr : Kd.C (Kd.int .u8) w A l.length l) (hc : l.length ≤ c) (hl : l.length ≤ 1000000) :
    Calls Try.prog 24 #[.slice A l.length c] w fun ev w' => ∃ (g : Nat) (w0 : World), ev = .returned (.pointer (some ⟨g, 0, none⟩)) ∧ IsRd 57 w0 w' g l 0 ∧ Below w.heap.size w w0 ∧ Below w0.heap.size w0 w' := by
  have HR := Aside0.mk hr
  have HC := Aside0.mk hc
  have HL := Aside0.mk (show l.length * 1 ≤ 140737488355328 by omega)
  clear hr hc hl
  go_enter Try.func24, Try.ntmps24
  go_wp2_with (go_at_call 35; refine (CloneByte.calls A c l _ HR.out HC.out HL.out).mono ?_; rintro ev w1 ⟨v, rfl, hR, hb⟩; have HB1 := Aside0.mk hb; obtain ⟨A1, c1, rfl, hc1, hC1⟩ := Kd.R_reads hR; have HC1 := Aside0.mk hC1; have HZ1 := Aside0.mk hc1; clear hb hR hC1 hc1)
  go_ret
  exact ⟨w1.heap.size, w1, rfl, ⟨A1, c1, by simpa using heap_alloc_new w1 _, Nat.le_refl _, HC1.out, HZ1.out⟩, HB1.out, below_alloc (Below.refl _ _) _⟩

/-! ### a reader that there isn't -/
set_option maxHeartbeats 2000000 in
set_option maxRecDepth 100000 in
theorem leftNil (w : World) : Calls Try.prog 28 #[.pointer none] w fun ev w' => ev = .returned (.int .i64 0) ∧ Below w.heap.size w w' := by
  go_enter Try.func28, Try.ntmps28
  go_wp2
  go_ret
  exact ⟨rfl, Below.refl _ _⟩
set_option maxHeartbeats 2000000 in
set_option maxRecDepth 100000 in
theorem errNil (w : World) : Calls Try.prog 27 #[.pointer none] w fun ev w' => ev = .returned (.int .i64 1) ∧ Below w.heap.size w w' := by
  go_enter Try.func27, Try.ntmps27
  go_wp2
  go_ret
  exact ⟨rfl, Below.refl _ _⟩
set_option maxHeartbeats 2000000 in
set_option maxRecDepth 100000 in
theorem offNil (w : World) : Calls Try.prog 36 #[.pointer none] w fun ev w' => ev = .returned (.bool true) ∧ Below w.heap.size w w' := by
  go_enter Try.func36, Try.ntmps36
  go_wp2
  go_ret
  exact ⟨rfl, Below.refl _ _⟩
set_option maxHeartbeats 2000000 in
set_option maxRecDepth 100000 in
theorem numberNil (w : World) (most : Int) : Calls Try.prog 25 #[.pointer none, .int .i64 most] w fun ev w' => ev = .returned (.int .i64 0) ∧ Below w.heap.size w w' := by
  go_enter Try.func25, Try.ntmps25
  go_wp2_with (go_at_call 36; refine (offNil _).mono ?_; rintro ev w1 ⟨rfl, hb⟩; have HB1 := Aside0.mk hb; clear hb)
  go_ret
  exact ⟨rfl, HB1.out⟩
set_option maxHeartbeats 2000000 in
set_option maxRecDepth 100000 in
theorem textNil (w : World) (most : Int) : Calls Try.prog 26 #[.pointer none, .int .i64 most] w fun ev w' => ev = .returned (.slice none 0 0) ∧ Below w.heap.size w w' := by
  go_enter Try.func26, Try.ntmps26
  go_wp2_with (go_at_call 36; refine (offNil _).mono ?_; rintro ev w1 ⟨rfl, hb⟩; have HB1 := Aside0.mk hb; clear hb)
  go_ret
  exact ⟨rfl, HB1.out⟩
end Go.Proofs.Ytmoefknefopdlaa.Rdr
