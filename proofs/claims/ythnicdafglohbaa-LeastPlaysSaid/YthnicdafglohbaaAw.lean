/-  awake of the laws on tallies: whatever the world, it returns true, and what was there lies as it lay.  -/
import Derived.Test.YthnicdafglohbaaLih
import Derived.Test.YthnicdafglohbaaLsh
import Derived.Test.YthnicdafglohbaaWFootNe
set_option linter.unusedVariables false
set_option linter.unusedSimpArgs false
namespace Go.Proofs.Ythnicdafglohbaa.Lw
open Go.RowKit Go.Maps Go.Sort Go.Lib Go.WideMaps Go.Proofs.YthnicdafglohbaaW.PrintWords Go.Proofs.YthnicdafglohbaaW.PrintLast Go.Proofs.YthnicdafglohbaaW.PrintMore
attribute [local go_sem] max2_int min2_int max_two min_two max_three min_three max_four min_four

theorem ksetI {c : Int → Int} {ks l : List Int} (h : Li.KSet c ks) (g : Li.KSet c l) : ks = l := by
  have hp : ks.Perm l := (List.perm_ext_iff_of_nodup (h.lt.imp (fun {a b} hab => Int.ne_of_lt hab)) (g.lt.imp (fun {a b} hab => Int.ne_of_lt hab))).2 (fun k => ⟨fun hk => (g.mem k (h.wf k hk)).2 ((h.mem k (h.wf k hk)).1 hk), fun hk => (h.mem k (g.wf k hk)).2 ((g.mem k (g.wf k hk)).1 hk)⟩)
  exact List.Perm.eq_of_pairwise (le := fun a b => a < b) (fun a b _ _ h1 h2 => absurd (Int.lt_trans h1 h2) (Int.lt_irrefl _)) h.lt g.lt hp
theorem ne_of_ltS {a b : List UInt8} (h : a < b) : a ≠ b := fun e => List.lt_irrefl _ (e ▸ h)
theorem ksetS {c : List UInt8 → Int} {ks l : List (List UInt8)} (h : Ls.KSet c ks) (g : Ls.KSet c l) : ks = l := by
  have hp : ks.Perm l := (List.perm_ext_iff_of_nodup (h.lt.imp (fun {a b} hab => ne_of_ltS hab)) (g.lt.imp (fun {a b} hab => ne_of_ltS hab))).2 (fun k => ⟨fun hk => (g.mem k (h.wf k hk)).2 ((h.mem k (h.wf k hk)).1 hk), fun hk => (h.mem k (g.wf k hk)).2 ((g.mem k (g.wf k hk)).1 hk)⟩)
  exact List.Perm.eq_of_pairwise (le := fun a b => a < b) (fun a b _ _ h1 h2 => absurd (List.lt_trans h1 h2) (List.lt_irrefl _)) h.lt g.lt hp
def aw1 : List UInt8 → Int := Ls.updZ (fun _ => 0) [98] (Ls.addZ 0 2)
def aw2 : List UInt8 → Int := Ls.updZ aw1 [97] (Ls.addZ (aw1 [97]) 1)
theorem aw_set : Ls.KSet aw2 [[97], [98]] := by
  refine ⟨fun k hk => ?_, ?_, fun k wf => ?_⟩
  · simp only [List.mem_cons, List.not_mem_nil, or_false] at hk
    rcases hk with rfl | rfl <;> decide
  · decide
  · have e2 : Ls.addZ 0 2 = 2 := by decide
    have e1 : Ls.addZ (aw1 [97]) 1 = 1 := by decide
    unfold aw2
    rw [e1]
    unfold aw1
    rw [e2]
    unfold Ls.updZ
    simp only [List.mem_cons, List.not_mem_nil, or_false]
    by_cases h1 : k = [97]
    · simp [h1]
    · by_cases h2 : k = [98]
      · simp [h2]
      · simp [h1, h2]
theorem aw_bst : Ls.bst Ls.ltI aw2 [[97], [98]] = ([97], 1, true) := by decide
theorem rowLit {w : World} {b t : Nat} {fr : Nat × Nat} {ks : List Int} {cs : Array Value} (h : w.heap[b]? = some (.cells cs t fr)) (hc : cs.toList = ks.map encZ) : Li.RowAt w (some ⟨b, 0, none⟩) ks := fun j hj => by
  refine ⟨_, rfl, ?_⟩
  rw [add_plain, cell_of_row w b j cs t fr h, ← Array.getElem?_toList, hc, List.getElem?_map, List.getElem?_eq_getElem hj]
  rfl
theorem low311 : Li.endAt Li.lowF [3, 1, 1] 3 = 1 := by decide
theorem high313 : Li.endAt Li.highF [3, 1, 3] 3 = 0 := by decide
set_option maxHeartbeats 4000000 in
set_option maxRecDepth 100000 in
theorem awake (w : World) : Calls Try.prog 9 #[] w fun e w' => e = .returned (.bool true) ∧ Below w.heap.size w w' := by
  go_enter Try.func9, Try.ntmps9
  go_wp2_with fail
  refine (Ls.new w).mono ?_
  rintro ev w1 ⟨rfl, hT, hb⟩
  have HB1 := Aside0.mk hb
  have HT1 := Aside0.mk hT
  obtain ⟨tb, htb⟩ : ∃ x, w.heap.size + 1 = x := ⟨_, rfl⟩
  obtain ⟨b, hb'⟩ : ∃ x, w.heap.size = x := ⟨_, rfl⟩
  rw [htb, hb'] at HT1
  rw [htb]
  have HBB := Aside0.mk (show w.heap.size ≤ b by omega)
  clear hT hb htb hb'
  go_wp2_with fail
  refine (Ls.add HT1.out (by decide) [98] (by decide) 2 (by decide)).mono ?_
  rintro ev w2 ⟨rfl, hT, hg⟩
  have HB2 := Aside0.mk (HB1.out.grown hg HB1.out.size (fun j hj => by cases hj; exact HBB.out))
  have HT2 : Aside0 (Ls.Tl w2 tb b aw1 1) := ⟨hT⟩
  clear hT hg HB1 HT1
  go_wp2_with fail
  refine (Ls.add HT2.out (by decide) [97] (by decide) 1 (by decide)).mono ?_
  rintro ev w3 ⟨rfl, hT, hg⟩
  have HB3 := Aside0.mk (HB2.out.grown hg HB2.out.size (fun j hj => by cases hj; exact HBB.out))
  have HT3 : Aside0 (Ls.Tl w3 tb b aw2 2) := ⟨hT⟩
  clear hT hg HB2 HT2
  go_wp2_with fail
  refine (Ls.least HT3.out (by decide)).mono ?_
  rintro ev w4 ⟨ks, hks, rfl, hb⟩
  rw [ksetS hks aw_set, aw_bst]
  have HB4 := Aside0.mk (below_step HB3.out hb)
  have HT4 := Aside0.mk (HT3.out.below hb)
  clear hks hb HB3 HT3
  go_wp2_with fail
  refine (Ls.keys HT4.out (by decide)).mono ?_
  rintro ev w5 ⟨A, cap, ks2, rfl, -, -, -, hks, hb⟩
  have hk2 := ksetS hks aw_set
  subst hk2
  have HB5 := Aside0.mk (below_step HB4.out hb)
  clear hks hb HB4 HT4
  go_wp2_with fail
  have hcc := Li.low (w := w5.alloc (.cells #[.int .i64 3, .int .i64 1, .int .i64 1] 3)) (A := some ⟨w5.heap.size, 0, none⟩) (cap := 3) (ks := [3, 1, 1]) (rowLit (blk_new w5 _) rfl) (by decide)
  refine hcc.mono ?_
  clear hcc
  rintro ev w6 ⟨rfl, hw6⟩
  rw [hw6, show ([3, 1, 1] : List Int).length = 3 from rfl, low311]
  clear hw6 w6
  have HB6 := Aside0.mk (below_step HB5.out (below_alloc (Below.refl _ w5) (.cells #[.int .i64 3, .int .i64 1, .int .i64 1] 3)))
  obtain ⟨w6, hw6⟩ : ∃ w6, w5.alloc (.cells #[.int .i64 3, .int .i64 1, .int .i64 1] 3) = w6 := ⟨_, rfl⟩
  rw [hw6] at HB6 ⊢
  clear hw6 HB5
  go_wp2_with fail
  have hcc := Li.high (w := w6.alloc (.cells #[.int .i64 3, .int .i64 1, .int .i64 3] 3)) (A := some ⟨w6.heap.size, 0, none⟩) (cap := 3) (ks := [3, 1, 3]) (rowLit (blk_new w6 _) rfl) (by decide)
  refine hcc.mono ?_
  clear hcc
  rintro ev w7 ⟨rfl, hw7⟩
  rw [hw7, show ([3, 1, 3] : List Int).length = 3 from rfl, high313]
  clear hw7 w7
  go_wp2_with fail
  go_ret
  exact ⟨rfl, below_step HB6.out (below_alloc (Below.refl _ w6) _)⟩
end Go.Proofs.Ythnicdafglohbaa.Lw
