/-  A tally's Keys (of one kind), the walk.  -/
import Derived.Test.YthnicdafglohbaaLim
set_option linter.unusedVariables false
set_option linter.unusedSimpArgs false
namespace Go.Proofs.Ythnicdafglohbaa.Li
open Go.RowKit Go.Maps Go.Sort Go.Lib Go.WideMaps Go.Proofs.YthnicdafglohbaaW.PrintWords Go.Proofs.YthnicdafglohbaaW.PrintLast Go.Proofs.YthnicdafglohbaaW.PrintMore
attribute [local go_sem] max2_int min2_int max_two min_two max_three min_three max_four min_four

theorem keysNil (w : World) : Calls Try.prog 23 #[.pointer none] w fun e w' => e = .returned (.slice none 0 0) ∧ Below w.heap.size w w' := by
  go_enter Try.func23, Try.ntmps23
  go_wp2_with fail
  go_ret
  exact ⟨rfl, below_alloc (Below.refl _ _) _⟩
theorem zero_of {w : World} {b n : Nat} {D : Dt} {c : Int → Int} (hown : w.ownsMap Try.prog 3 (plainElem Try.prog 3) b n D) (hat : ∀ k : Int, (Lit.int .i64 k).wf = true → D.atKey (.int .i64 k) zd = .lit (.int .i64 (c k))) {k : Int} (wf : (Lit.int .i64 k).wf = true) (h : c k ≠ 0) : k ∈ intKeys D := by
  rw [(keys_facts hown).2.2 k]
  cases hh : Maps.has D (.int .i64 k) with
  | true => rfl
  | false =>
    have h1 := hat k wf
    rw [atKey_of_not_has hh zd] at h1
    unfold zd at h1
    injection h1 with h1
    injection h1 with _ h1
    exact absurd h1.symm h
/-- What is left of the sorted keys. -/
theorem kset {w : World} {b n : Nat} {D : Dt} {c : Int → Int} (hown : w.ownsMap Try.prog 3 (plainElem Try.prog 3) b n D) (hat : ∀ k : Int, (Lit.int .i64 k).wf = true → D.atKey (.int .i64 k) zd = .lit (.int .i64 (c k))) {ss : List Int} (hS : ss.Perm (intKeys D)) :
    KSet c ((ss.mergeSort (fun x y => decide (x ≤ y))).filter fun k => !(c k == 0)) := by
  obtain ⟨h1, h2, h3⟩ := keys_facts hown
  obtain ⟨h4, h5⟩ := sorted_facts h1 hS
  refine ⟨fun k hk => h2 k ((h5 k).1 (List.mem_filter.1 hk).1), h4.filter _, fun k wf => ?_⟩
  rw [List.mem_filter, h5 k]
  refine ⟨fun h => by simpa using h.2, fun h => ⟨zero_of hown hat wf h, by simpa using h⟩⟩
set_option maxHeartbeats 4000000 in
set_option maxRecDepth 100000 in
theorem keys {w : World} {tb b n : Nat} {c : Int → Int} (h : Tl w tb b c n) (hn : n ≤ 1000000) :
    Calls Try.prog 23 #[.pointer (some ⟨tb, 0, none⟩)] w fun e w' => ∃ A cap ks, e = .returned (.slice A ks.length cap) ∧ ks.length ≤ cap ∧ ks.length ≤ n ∧ RowAt w' A ks ∧ KSet c ks ∧ Below w.heap.size w w' := by
  have HT := Aside0.mk h
  have hl := h.lt
  obtain ⟨D, hown, hat⟩ := h.map
  have HAT := Aside0.mk hat
  have c0 : w.cell? ⟨tb, 0, none⟩ = some (.map (some b)) := (blk_cell h.box 0).trans rfl
  have hb1 : Below w.heap.size w (w.alloc (.cells #[.pointer (some ⟨tb, 0, none⟩)] 30)) := below_alloc (Below.refl _ _) _
  have HT1 := Aside0.mk (h.below hb1)
  have HX1 := Aside0.mk (blk_new w (.cells #[.pointer (some ⟨tb, 0, none⟩)] 30))
  have HO1 := Aside0.mk (hown.alloc (.cells #[.pointer (some ⟨tb, 0, none⟩)] 30))
  have HB1 := Aside0.mk hb1
  have HL := Aside0.mk hl
  have HN := Aside0.mk hn
  have c1 : (w.alloc (.cells #[.pointer (some ⟨tb, 0, none⟩)] 30)).cell? ⟨tb, 0, none⟩ = some (.map (some b)) := (blk_cell HT1.out.box 0).trans rfl
  clear hat hown h hb1 hl hn c0
  go_enter Try.func23, Try.ntmps23
  go_wp2_with fail
  obtain ⟨w1, hw1⟩ : ∃ w1, w.alloc (.cells #[.pointer (some ⟨tb, 0, none⟩)] 30) = w1 := ⟨_, rfl⟩
  rw [hw1] at HT1 HX1 HO1 HB1
  rw [hw1]
  have hs1 : w1.heap.size = w.heap.size + 1 := by rw [← hw1]; simp
  have HS1 := Aside0.mk hs1
  clear hw1 hs1 c1
  refine (callsIn_wide.1 (Sk.maps_Keys_34 (some b) w1)).mono ?_
  rintro ev w2 ⟨rfl, hw2⟩
  rw [hw2]
  clear hw2 w2
  have hsz : Maps.size D ≤ 1000000 := Nat.le_trans HO1.out.size_le HN.out
  have hcc := callsIn_wide.1 (Sk.slices_Sorted_keys_33_34 b n D _ w1 HO1.out (by unfold maxLen; omega) (by omega))
  clear hsz
  go_wp2_with fail
  refine hcc.mono ?_
  clear hcc
  rintro ev w3 ⟨v, ss, rfl, hS, hrow, hnil, hb3⟩
  obtain ⟨w2, hw2⟩ : ∃ w2, w1.alloc (.cells #[.map (some b)] 44) = w2 := ⟨_, rfl⟩
  rw [hw2] at hrow hb3
  have hb2 : Below w1.heap.size w1 w2 := by rw [← hw2]; exact below_alloc (Below.refl _ _) _
  have HB3 := Aside0.mk (below_step (below_step HB1.out hb2) hb3)
  have HT3 := Aside0.mk ((HT1.out.below hb2).below hb3)
  have HX3 := Aside0.mk (blk_below (blk_below HX1.out hb2) hb3)
  have HSZ := Aside0.mk (Nat.le_trans (Nat.le_of_eq HS1.out.symm) hb2.size)
  have HK := Aside0.mk (kset HO1.out HAT.out hS)
  have HLEN := Aside0.mk (show ss.length ≤ n by
    have h1 := hS.length_eq
    have h2 := HO1.out.size_le
    obtain ⟨es, e, -⟩ := HO1.out.keysOf
    subst e
    rw [h1]
    simpa [intKeys, Maps.size_eq] using h2)
  have HWF := Aside0.mk (show ∀ k ∈ ss.mergeSort (fun x y => decide (x ≤ y)), (Lit.int .i64 k).wf = true from fun k hk => (keys_facts HO1.out).2.1 k (hS.mem_iff.1 ((List.mem_mergeSort).1 hk)))
  clear hw2 hb2 hb3
  by_cases hss : ss = []
  · rw [hnil.2 hss]
    have hk0 := HK.out
    subst hss
    clear hrow hnil hS
    go_wp2_with fail
    refine (delNil w3 _).mono ?_
    rintro ev w4 ⟨rfl, hw4⟩
    rw [hw4]
    clear hw4 w4
    go_wp2_with fail
    go_ret
    exact ⟨none, 0, [], rfl, Nat.le_refl _, Nat.zero_le _, fun j hj => absurd hj (Nat.not_lt_zero _), by simpa using hk0, HB3.out⟩
  · obtain ⟨-, ⟨-, h0⟩ | ⟨g, cap, cur, hv, hg, hh, hcap, -, -, hcur⟩⟩ := hrow
    · exact absurd (List.length_eq_zero_iff.1 h0) hss
    · obtain ⟨l, hl⟩ : ∃ l, ss.mergeSort (fun x y => decide (x ≤ y)) = l := ⟨_, rfl⟩
      have hll : l.length = ss.length := by rw [← hl, List.length_mergeSort]
      rw [hl] at HK HWF hcur
      have e1 : (l.attachWith _ HWF.out).map (·.1) = l := by simp
      obtain ⟨ts, hts⟩ : ∃ ts : List Ky, l.attachWith _ HWF.out = ts := ⟨_, rfl⟩
      rw [hts] at e1
      have e2 : ts.length = ss.length := by rw [← hll, ← e1, List.length_map]
      have e3 : ts.map encK = l.map encZ := by rw [← e1, List.map_map]; rfl
      have e4 : (ts.filter fun k => !(c k.1 == 0)).map (·.1) = l.filter fun k => !(c k == 0) := by rw [← e1, List.filter_map]; rfl
      have hgl : w.heap.size < g := by have := HSZ.out; omega
      have hlt := HL.out
      have hcon := del (cap := cap) HT3.out HX3.out ts hh (by rw [e2, e3]; simpa using hcur) (by rw [e2]; exact hcap) (by rw [e2]; have := HLEN.out; have := HN.out; omega) (by omega) (by omega) (by omega)
      rw [e2] at hcon
      have HGL := Aside0.mk hgl
      have E4 := Aside0.mk e4
      have HLL := Aside0.mk hll
      have HCAP := Aside0.mk hcap
      rw [hv]
      clear hnil hS hss hh hcap hcur hv hl hll e1 hts e2 e3 e4 hgl hlt hg
      go_wp2_with fail
      refine hcon.mono ?_
      clear hcon
      rintro ev w4 ⟨rfl, q1, q2, q3, q4, q5, q6⟩
      have Q := Aside0.mk (And.intro q1 (And.intro q2 (And.intro q3 (And.intro q4 (And.intro q5 q6)))))
      clear q1 q2 q3 q4 q5 q6
      go_wp2_with fail
      go_ret
      obtain ⟨q1, q2, q3, q4, q5, q6⟩ := Q.out
      have hB := HB3.out
      have e5 : (ts.filter fun k => !(c k.1 == 0)).length = (l.filter fun k => !(c k == 0)).length := by rw [← E4.out, List.length_map]
      refine ⟨some ⟨g, 0, none⟩, cap, l.filter fun k => !(c k == 0), by rw [← e5]; rfl, ?_, ?_, fun j hj => ⟨_, rfl, ?_⟩, HK.out, ⟨q2.trans hB.os, q3.trans hB.tape, q4.trans hB.output, by rw [q5]; exact hB.size, fun j hj => (q6 j (Nat.lt_of_lt_of_le hj hB.size) (by have := HGL.out; omega)).trans (hB.block j hj)⟩⟩
      · exact Nat.le_trans (List.length_filter_le _ _) (by rw [HLL.out]; exact HCAP.out)
      · exact Nat.le_trans (List.length_filter_le _ _) (by rw [HLL.out]; exact HLEN.out)
      · have hj' : j < (ts.filter fun k => !(c k.1 == 0)).length := by rw [e5]; exact hj
        rw [add_plain, q1 j hj']
        have e6 : ((ts.filter fun k => !(c k.1 == 0)).map (·.1))[j]'(by rw [List.length_map]; exact hj') = (l.filter fun k => !(c k == 0))[j] := by congr 1; exact E4.out
        rw [← e6, List.getElem_map]
        rfl
end Go.Proofs.Ythnicdafglohbaa.Li
