import Derived.Test.YtkncmbbkehnagaaZb7
import Derived.Lib.SliceRun
import Derived.Maps.Own
import Derived.Maps.OwnOps
import Derived.Maps.OwnSet
import Derived.Maps.Views
import Derived.DeepKeys4
set_option linter.unusedVariables false
set_option linter.unusedSimpArgs false
/-! A row of what was found: IndexFunc, DeleteFunc, MinFunc. -/
namespace Go.Proofs.Ytkncmbbkehnagaa.Cm
open Go.RowKit Go.Proofs.YtkncmbbkehnagaaW.PrintWords Go.Proofs.YtkncmbbkehnagaaW.PrintLast Go.Proofs.YtkncmbbkehnagaaW.PrintMore Go.Proofs.Ytkncmbbkehnagaa.Kp Go.Proofs.Ytkncmbbkehnagaa.Cp Go.Proofs.Ytkncmbbkehnagaa.PAll Go.Proofs.Ytkncmbbkehnagaa.Iter Go.Proofs.Ytkncmbbkehnagaa.St Go.Proofs.Ytkncmbbkehnagaa.Sp
attribute [local go_sem] max2_int min2_int max_two min_two max_three min_three max_four min_four

def delB (r : Rf) (x : FD) : Bool := !(x.p == r.1 && x.q == r.2)
/-- What is no other's. -/
def keepF (l : List FD) (r : Rf) : List FD := l.filter (fun x => !delB r x)
theorem keepF_snoc (l : List FD) (r : Rf) (k : Nat) (x : FD) (h : l[k]? = some x) : keepF (l.take (k + 1)) r = keepF (l.take k) r ++ (if delB r x = true then [] else [x]) := by
  unfold keepF
  rw [take_snoc2 l k x h, List.filter_append]
  cases hd : delB r x <;> simp [hd]
def fdCells (x : FD) : List Value := [.int .i64 x.p, .int .i64 x.q, .int .i64 x.b, .int .i64 x.k]
def RowF (W : World) (blk : Nat) (l : List FD) : Prop := ∃ cs : Array Value, W.heap[blk]? = some (.cells cs 49 (0, 0)) ∧ ∀ i x, l[i]? = some x → ∀ j u, (fdCells x)[j]? = some u → cs[i * 4 + j]? = some u
theorem RowF.cell {W : World} {blk : Nat} {l : List FD} (h : RowF W blk l) (i : Nat) (x : FD) (hx : l[i]? = some x) :
    (W.cell? ⟨blk, i * 4, none⟩ = some (.int .i64 x.p) ∧ W.cell? ⟨blk, i * 4 + 1, none⟩ = some (.int .i64 x.q) ∧ W.cell? ⟨blk, i * 4 + 2, none⟩ = some (.int .i64 x.b) ∧ W.cell? ⟨blk, i * 4 + 3, none⟩ = some (.int .i64 x.k)) ∧ ∀ o, W.frozen? ⟨blk, o, none⟩ = false := by
  obtain ⟨cs, h1, h2⟩ := h
  have g := h2 i x hx
  exact ⟨⟨(blk_cell h1 _).trans (g 0 _ rfl), (blk_cell h1 _).trans (g 1 _ rfl), (blk_cell h1 _).trans (g 2 _ rfl), (blk_cell h1 _).trans (g 3 _ rfl)⟩, fun o => blk_frozen h1 o⟩
theorem RowF.below {W W1 : World} {blk : Nat} {l : List FD} (h : RowF W blk l) (hb : Below W.heap.size W W1) : RowF W1 blk l := by
  obtain ⟨cs, h1, h2⟩ := h
  exact ⟨cs, blk_below h1 hb, h2⟩
theorem RowF.lt {W : World} {blk : Nat} {l : List FD} (h : RowF W blk l) : blk < W.heap.size := by
  obtain ⟨cs, h1, h2⟩ := h
  exact blk_lt h1
theorem RowF.take {W : World} {blk : Nat} {l : List FD} (h : RowF W blk l) (k : Nat) : RowF W blk (l.take k) := by
  obtain ⟨cs, h1, h2⟩ := h
  refine ⟨cs, h1, fun i x hx => h2 i x ?_⟩
  rw [List.getElem?_take] at hx
  split at hx
  · exact hx
  · cases hx
theorem RowF.put {W : World} {blk : Nat} {l : List FD} (h : RowF W blk l) (i : Nat) (hi : i < l.length) (x : FD) :
    RowF ((((W.setCell ⟨blk, i * 4, none⟩ (.int .i64 x.p)).setCell ⟨blk, i * 4 + 1, none⟩ (.int .i64 x.q)).setCell ⟨blk, i * 4 + 2, none⟩ (.int .i64 x.b)).setCell ⟨blk, i * 4 + 3, none⟩ (.int .i64 x.k)) blk (l.set i x) := by
  obtain ⟨cs, h1, h2⟩ := h
  refine ⟨_, blk_set (blk_set (blk_set (blk_set h1 (i * 4) _) (i * 4 + 1) _) (i * 4 + 2) _) (i * 4 + 3) _, fun k y hy j u hu => ?_⟩
  have hj : j < 4 := (List.getElem?_eq_some_iff.1 hu).1
  rw [List.getElem?_set] at hy
  by_cases e : i = k
  · subst e
    rw [if_pos rfl, if_pos hi] at hy
    obtain rfl := Option.some.inj hy
    obtain ⟨z, hz⟩ : ∃ z, l[i]? = some z := ⟨_, List.getElem?_eq_getElem hi⟩
    have g3 := (Array.getElem?_eq_some_iff.1 (h2 i z hz 3 _ rfl)).1
    have hjj : j = 0 ∨ j = 1 ∨ j = 2 ∨ j = 3 := by omega
    rcases hjj with rfl | rfl | rfl | rfl
    all_goals
      simp only [Array.getElem?_setIfInBounds, Array.size_setIfInBounds]
      repeat' split
    all_goals first | exact hu | (exact absurd trivial ‹¬True›) | (exfalso; omega)
  · rw [if_neg e] at hy
    simp only [Array.getElem?_setIfInBounds, Array.size_setIfInBounds]
    rw [if_neg (by omega), if_neg (by omega), if_neg (by omega), if_neg (by omega)]
    exact h2 k y hy j u hu
theorem setCells_row (b t : Nat) : ∀ (vs : List Value) (o : Nat) (W : World) (cs : Array Value), W.heap[b]? = some (.cells cs t (0, 0)) → ∃ cs', (W.setCells b o vs).heap[b]? = some (.cells cs' t (0, 0)) ∧ ∀ j, j < o → cs'[j]? = cs[j]?
  | [], o, W, cs, h => ⟨cs, h, fun _ _ => rfl⟩
  | v :: vs, o, W, cs, h => by
    obtain ⟨cs', h1, h2⟩ := setCells_row b t vs (o + 1) (W.setCell ⟨b, o, none⟩ v) _ (blk_set h o v)
    refine ⟨cs', h1, fun j hj => (h2 j (by omega)).trans ?_⟩
    rw [Array.getElem?_setIfInBounds, if_neg (by omega)]
theorem kpCells {w : World} {b : Nat} : ∀ (vs : List Value) (o : Nat) {w1 : World}, Kp (fun k => k = b) w w1 → Kp (fun k => k = b) w (w1.setCells b o vs)
  | [], o, w1, h => h
  | v :: vs, o, w1, h => kpCells vs (o + 1) (h.set (p := ⟨b, o, none⟩) rfl v)
theorem RowF.clear {W : World} {blk : Nat} {l : List FD} (h : RowF W blk l) (k : Nat) (vs : List Value) : RowF (W.setCells blk (k * 4) vs) blk (l.take k) := by
  obtain ⟨cs, h1, h2⟩ := h
  obtain ⟨cs', h3, h4⟩ := setCells_row blk _ vs (k * 4) W cs h1
  refine ⟨cs', h3, fun i x hx j u hu => ?_⟩
  have hj : j < 4 := (List.getElem?_eq_some_iff.1 hu).1
  rw [List.getElem?_take] at hx
  split at hx
  · rename_i hik
    rw [h4 _ (by omega)]
    exact h2 i x hx j u hu
  · cases hx
theorem zeroFD (w : World) : (zeroValue 49).run Try.prog w = .ok (.agg #[.int .i64 0, .int .i64 0, .int .i64 0, .int .i64 0]) w := by kernel_rfl
/-- clear of the rest of a row. -/
theorem clear_row4 {W : World} {blk : Nat} {cs : Array Value} (h : W.heap[blk]? = some (.cells cs 49 (0, 0))) (o n c : Nat) (hn : o + n * 4 ≤ cs.size) (ty : TypeId) :
    (Builtin.clear_ #[45] ty #[.slice (some ⟨blk, o, none⟩) n c]).run Try.prog W = .ok (.tuple #[]) (W.setCells blk o (List.replicate (n * 4) (.int .i64 0))) := by
  have hzc : (Builtin.zeroCells (Value.agg #[.int .i64 0, .int .i64 0, .int .i64 0, .int .i64 0]).cells n).toList = List.replicate (n * 4) (.int .i64 0) := by
    apply List.ext_getElem
    · simp [Builtin.zeroCells, Value.cells]
    · intro i h1 h2
      have h3 : i % 4 = 0 ∨ i % 4 = 1 ∨ i % 4 = 2 ∨ i % 4 = 3 := by omega
      rcases h3 with h3 | h3 | h3 | h3 <;> simp [Builtin.zeroCells, Value.cells, h3]
  have hst := run_storeCells_cells (P := Try.prog) blk o (List.replicate (n * 4) (.int .i64 0)) 0 W (fun j hj => by
    rw [blk_cell h, Array.getElem?_eq_getElem (by simp at hj; omega)]; rfl) (fun j hj => blk_frozen h _) (by intro v hv; rw [List.eq_of_mem_replicate hv]; rfl)
  simp only [Nat.add_zero] at hst
  rcases n with _ | m
  · simp [Builtin.clear_, run_underlying Try.underlying45, World.setCells]
  · simp [Builtin.clear_, run_underlying Try.underlying45, zeroFD, hzc, hst]
def IdxR (l : List FD) (r : Rf) (j : Int) : Prop := (j = -1 ∧ l.any (delB r) = false) ∨ ∃ k x, j = ((k : Nat) : Int) ∧ l[k]? = some x ∧ delB r x = true ∧ (l.take k).any (delB r) = false
set_option maxHeartbeats 4000000 in
set_option maxRecDepth 100000 in
theorem indexff {w : World} {b c : Nat} {r : Rf} {blk : Nat} {l : List FD} (hb : w.heap[b]? = some (.cells #[.int .i64 r.1, .int .i64 r.2] 31 (0, 0))) (hR : RowF w blk l) (hl : l.length ≤ 100000) :
    Calls Try.prog 62 #[.slice (some ⟨blk, 0, none⟩) l.length c, .func (.func 42) #[] #[.pointer (some ⟨b, 0, none⟩)]] w fun e w' => ∃ j : Int, e = .returned (.int .i64 j) ∧ IdxR l r j ∧ Below w.heap.size w w' := by
  have HB := Aside0.mk hb
  have HR := Aside0.mk hR
  have HL := Aside0.mk hl
  clear hb hR hl
  go_enter Try.func62, Try.ntmps62
  go_wp2_with fail
  go_loopw [8] (fun v8 wr => ∃ k : Nat, k ≤ l.length ∧ v8 = .int .i64 (k : Int) ∧ Aside0 ((l.take k).any (delB r) = false) ∧ Aside0 (Below w.heap.size w wr)) (fun v8 _ => l.length - (intOf v8).toNat)
  case atStart => exact ⟨0, Nat.zero_le _, rfl, ⟨rfl⟩, ⟨Below.refl _ _⟩⟩
  case round =>
    obtain ⟨k, hk, rfl, HN, HBL⟩ := hrel
    by_cases hlt : k < l.length
    · have hlt2 : (k : Int) < (l.length : Int) := by omega
      have HLT := Aside0.mk hlt
      have hw3 : wrap64 ((k : Int) + 1) = ((k + 1 : Nat) : Int) := by rw [show (k : Int) + 1 = ((k + 1 : Nat) : Int) by omega]; exact wrap_small _ (by omega) (by have := HL.out; omega)
      obtain ⟨x, hx⟩ : ∃ x, l[k]? = some x := ⟨_, List.getElem?_eq_getElem hlt⟩
      obtain ⟨⟨x0, x1, x2, x3⟩, -⟩ := (HR.out.below HBL.out).cell k x hx
      have HX := Aside0.mk hx
      have hcc := pickne (blk_below HB.out HBL.out) x
      have HCC := Aside0.mk hcc
      clear hk hlt hx hcc
      go_wp2_with fail
      refine HCC.out.mono ?_
      rintro ev w2 ⟨rfl, hb2⟩
      have HB2 := Aside0.mk (below_step HBL.out hb2)
      clear hb2 HBL HCC x0 x1 x2 x3
      obtain ⟨q, hp⟩ : ∃ q, (!(x.p == r.1 && x.q == r.2)) = q := ⟨_, rfl⟩
      have HP : Aside0 (delB r x = q) := ⟨hp⟩
      rw [hp]
      clear hp
      cases q with
      | true =>
        go_wp2_with fail
        go_ret
        exact ⟨_, rfl, .inr ⟨k, x, rfl, HX.out, HP.out, HN.out⟩, HB2.out⟩
      | false =>
        go_wp2_with fail
        go_roundw
        case measure =>
          have hm : l.length - ((k + 1 : Nat) : Int).toNat < l.length - ((k : Nat) : Int).toNat := by
            rw [Int.toNat_natCast, Int.toNat_natCast]
            exact Nat.sub_lt_sub_left HLT.out (Nat.lt_succ_self k)
          first | exact hm | (rw [hw3]; exact hm)
        case rel => exact ⟨k + 1, HLT.out, by first | rw [hw3] | rfl, ⟨by rw [any_snoc _ _ _ _ HX.out, HN.out]; exact HP.out⟩, HB2⟩
    · have he : k = l.length := by omega
      subst he
      have hnn : ¬ (((l.length : Nat) : Int) < (l.length : Int)) := by omega
      clear hlt hk
      go_wp2_with fail
      go_ret
      have hn := HN.out
      rw [List.take_length] at hn
      exact ⟨_, rfl, .inl ⟨rfl, hn⟩, HBL.out⟩
theorem keepF_all {l : List FD} {r : Rf} (h : l.any (delB r) = false) : keepF l r = l := by
  unfold keepF
  rw [List.filter_eq_self]
  intro x hx
  cases hd : delB r x
  · rfl
  · exact absurd (List.any_eq_true.2 ⟨x, hx, hd⟩) (by rw [h]; decide)
theorem keepF_le (l : List FD) (r : Rf) : (keepF l r).length ≤ l.length := List.length_filter_le _ _
/-- DeleteFunc's round: so much stands at the beginning; the rest as it was. -/
structure Df (l cur : List FD) (r : Rf) (i j : Nat) : Prop where
  len : cur.length = l.length
  ilen : i = (keepF (l.take j) r).length
  ij : i ≤ j
  jl : j ≤ l.length
  head : cur.take i = keepF (l.take j) r
  tail : ∀ k, j ≤ k → cur[k]? = l[k]?
theorem Df.skip {l cur : List FD} {r : Rf} {i j : Nat} (h : Df l cur r i j) (x : FD) (hx : l[j]? = some x) (hd : delB r x = true) : Df l cur r i (j + 1) := by
  have e := keepF_snoc l r j x hx
  rw [if_pos hd, List.append_nil] at e
  exact ⟨h.len, by rw [e]; exact h.ilen, by have := h.ij; omega, (List.getElem?_eq_some_iff.1 hx).1, by rw [e]; exact h.head, fun k hk => h.tail k (by omega)⟩
theorem Df.put {l cur : List FD} {r : Rf} {i j : Nat} (h : Df l cur r i j) (x : FD) (hx : l[j]? = some x) (hd : delB r x = false) (hij : i < j) : Df l (cur.set i x) r (i + 1) (j + 1) := by
  have e := keepF_snoc l r j x hx
  rw [if_neg (by rw [hd]; decide)] at e
  have hjl := (List.getElem?_eq_some_iff.1 hx).1
  refine ⟨by rw [List.length_set]; exact h.len, by rw [e, List.length_append, ← h.ilen]; rfl, by omega, hjl, ?_, fun k hk => ?_⟩
  · rw [e, ← h.head]
    have hi : i < (cur.set i x).length := by rw [List.length_set, h.len]; omega
    rw [List.take_succ_eq_append_getElem hi, List.getElem_set_self, List.take_set_of_le (Nat.le_refl _)]
  · rw [List.getElem?_set, if_neg (by omega)]
    exact h.tail k (by omega)
set_option maxHeartbeats 4000000 in
set_option maxRecDepth 100000 in
theorem delf {w : World} {b c : Nat} {r : Rf} {blk : Nat} {l : List FD} (hb : w.heap[b]? = some (.cells #[.int .i64 r.1, .int .i64 r.2] 31 (0, 0))) (hR : RowF w blk l) (hc : l.length ≤ c) (hl : l.length ≤ 100000) :
    Calls Try.prog 40 #[.slice (some ⟨blk, 0, none⟩) l.length c, .func (.func 42) #[] #[.pointer (some ⟨b, 0, none⟩)]] w fun e w' => e = .returned (.slice (some ⟨blk, 0, none⟩) (keepF l r).length c) ∧ RowF w' blk (keepF l r) ∧ Kp (fun k => k = blk) w w' := by
  have HB := Aside0.mk hb
  have HR := Aside0.mk hR
  have HL := Aside0.mk hl
  have HC := Aside0.mk hc
  have HNE : Aside0 (b ≠ blk) := ⟨by
    obtain ⟨cs, h1, -⟩ := hR
    exact type_ne hb h1 (by decide)⟩
  have HIX := Aside0.mk (indexff (c := c) hb hR hl)
  clear hb hR hl hc
  obtain ⟨kl, hkl⟩ : ∃ n, (keepF l r).length = n := ⟨_, rfl⟩
  have HKL := Aside0.mk hkl
  rw [hkl]
  clear hkl
  obtain ⟨i5, hi5, hz5, hs5, hb5⟩ := info_parts infoF
  go_enter Try.func40, Try.ntmps40
  go_wp2_with fail
  refine HIX.out.mono ?_
  rintro ev w1 ⟨j, rfl, hj, hb1⟩
  have HB1 := Aside0.mk hb1
  clear HIX hb1
  rcases hj with ⟨rfl, hall⟩ | ⟨k, x, rfl, hx, hd, hk⟩
  · have HALL := Aside0.mk hall
    clear hall
    go_wp2_with fail
    go_ret
    rw [keepF_all HALL.out]
    have e : kl = l.length := by rw [← HKL.out, keepF_all HALL.out]
    subst e
    exact ⟨rfl, HR.out.below HB1.out, Kp.of_below HB1.out _⟩
  · have hkl2 : k < l.length := (List.getElem?_eq_some_iff.1 hx).1
    have hm1 : ((k : Int) == -1) = false := beq_eq_false_iff_ne.2 (by omega)
    obtain ⟨k1, hk1⟩ : ∃ k1, k + 1 = k1 := ⟨_, rfl⟩
    have HK1 := Aside0.mk hk1
    have hw1 : wrap64 ((k : Int) + 1) = (k1 : Int) := by rw [show (k : Int) + 1 = (k1 : Int) by omega]; exact wrap_small _ (by omega) (by have := HL.out; omega)
    have HD0 : Aside0 (Df l l r k k1) := ⟨by
      rw [← hk1]
      have e0 := keepF_all hk
      have h0 : Df l l r k k := ⟨rfl, by rw [e0, List.length_take]; omega, Nat.le_refl _, by omega, by rw [e0], fun _ _ => rfl⟩
      exact h0.skip x hx hd⟩
    have HW1 := Aside0.mk hw1
    clear hx hd hk hkl2 hk1
    go_wp2_with fail
    clear hm1 hw1
    go_loopw [5, 6] (fun v5 v6 wr => ∃ (i j : Nat) (cur : List FD), v5 = .int .i64 (i : Int) ∧ v6 = .int .i64 (j : Int) ∧ Aside0 (Df l cur r i j) ∧ Aside0 (i < j) ∧ Aside0 (RowF wr blk cur) ∧ Aside0 (Kp (fun k => k = blk) w wr)) (fun _ v6 _ => l.length - (intOf v6).toNat)
    case atStart => exact ⟨k, k1, l, rfl, congrArg (Value.int .i64) HW1.out, HD0, ⟨by rw [← HK1.out]; exact Nat.lt_succ_self k⟩, ⟨HR.out.below HB1.out⟩, ⟨Kp.of_below HB1.out _⟩⟩
    case round =>
      clear HD0
      obtain ⟨i, j, cur, rfl, rfl, HD, HIJ, HRW, HK⟩ := hrel
      by_cases hlt : j < l.length
      · have hlt2 : (j : Int) < (l.length : Int) := by omega
        have HLT := Aside0.mk hlt
        have hw3 : wrap64 ((j : Int) + 1) = ((j + 1 : Nat) : Int) := by rw [show (j : Int) + 1 = ((j + 1 : Nat) : Int) by omega]; exact wrap_small _ (by omega) (by have := HL.out; omega)
        have hw4 : wrap64 ((i : Int) + 1) = ((i + 1 : Nat) : Int) := by rw [show (i : Int) + 1 = ((i + 1 : Nat) : Int) by omega]; exact wrap_small _ (by omega) (by have := HL.out; have := HIJ.out; omega)
        have HW3 := Aside0.mk hw3
        have HW4 := Aside0.mk hw4
        obtain ⟨x, hx⟩ : ∃ x, l[j]? = some x := ⟨_, List.getElem?_eq_getElem hlt⟩
        have hxc : cur[j]? = some x := (HD.out.tail j (Nat.le_refl _)).trans hx
        obtain ⟨⟨x0, x1, x2, x3⟩, -⟩ := HRW.out.cell j x hxc
        have HX := Aside0.mk hx
        clear hlt hx hxc hw3 hw4
        go_wp2_with fail
        obtain ⟨w2, hw2⟩ : ∃ w2, wr.alloc (.cells #[.int .i64 x.p, .int .i64 x.q, .int .i64 x.b, .int .i64 x.k] 49) = w2 := ⟨_, rfl⟩
        obtain ⟨b2, hb2⟩ : ∃ b, wr.heap.size = b := ⟨_, rfl⟩
        have HX2 : Aside0 (w2.heap[b2]? = some (.cells #[.int .i64 x.p, .int .i64 x.q, .int .i64 x.b, .int .i64 x.k] 49 (0, 0))) := ⟨by rw [← hw2, ← hb2]; exact blk_new wr _⟩
        have HRW2 : Aside0 (RowF w2 blk cur) := ⟨by rw [← hw2]; exact HRW.out.below (below_alloc (Below.refl _ _) _)⟩
        have HK2 : Aside0 (Kp (fun k => k = blk) w w2) := ⟨by rw [← hw2]; exact HK.out.below (below_alloc (Below.refl _ _) _)⟩
        have HB2 : Aside0 (w2.heap[b]? = some (.cells #[.int .i64 r.1, .int .i64 r.2] 31 (0, 0))) := ⟨HK2.out.blk HB.out HNE.out⟩
        have HNB : Aside0 (b2 ≠ blk) := ⟨by have := HRW.out.lt; omega⟩
        rw [hw2, hb2]
        clear hw2 hb2 HRW HK x0 x1 x2 x3
        refine (pickne HB2.out x).mono ?_
        rintro ev w3 ⟨rfl, hb3⟩
        have HRW3 := Aside0.mk (HRW2.out.below hb3)
        have HK3 := Aside0.mk (HK2.out.below hb3)
        have hx3 := blk_below HX2.out hb3
        obtain ⟨y0, y1, y2, y3⟩ : w3.cell? ⟨b2, 0, none⟩ = some (.int .i64 x.p) ∧ w3.cell? ⟨b2, 1, none⟩ = some (.int .i64 x.q) ∧ w3.cell? ⟨b2, 2, none⟩ = some (.int .i64 x.b) ∧ w3.cell? ⟨b2, 3, none⟩ = some (.int .i64 x.k) := ⟨(blk_cell hx3 0).trans rfl, (blk_cell hx3 1).trans rfl, (blk_cell hx3 2).trans rfl, (blk_cell hx3 3).trans rfl⟩
        clear hb3 hx3 HRW2 HK2 HB2 HX2
        obtain ⟨q, hp⟩ : ∃ q, (!(x.p == r.1 && x.q == r.2)) = q := ⟨_, rfl⟩
        have HP : Aside0 (delB r x = q) := ⟨hp⟩
        rw [hp]
        clear hp
        cases q with
        | true =>
          have hw3 := HW3.out
          go_wp2_with fail
          go_roundw
          case measure =>
            have hm : l.length - ((j + 1 : Nat) : Int).toNat < l.length - ((j : Nat) : Int).toNat := by
              rw [Int.toNat_natCast, Int.toNat_natCast]
              exact Nat.sub_lt_sub_left HLT.out (Nat.lt_succ_self j)
            first | exact hm | (rw [hw3]; exact hm)
          case rel => exact ⟨i, j + 1, cur, rfl, by first | rw [hw3] | rfl, ⟨HD.out.skip x HX.out HP.out⟩, ⟨Nat.lt_succ_of_lt HIJ.out⟩, HRW3, HK3⟩
        | false =>
          have hil : i < cur.length := by rw [HD.out.len]; have := HIJ.out; have := HLT.out; omega
          have hil2 : (i : Int) < (l.length : Int) := by have := HIJ.out; have := HLT.out; omega
          obtain ⟨z, hz⟩ : ∃ z, cur[i]? = some z := ⟨_, List.getElem?_eq_getElem hil⟩
          obtain ⟨⟨z0, z1, z2, z3⟩, zf⟩ := HRW3.out.cell i z hz
          have f0 := zf (i * 4)
          have f1 := zf (i * 4 + 1)
          have f2 := zf (i * 4 + 2)
          have f3 := zf (i * 4 + 3)
          have HIL := Aside0.mk hil
          have hw3 := HW3.out
          have hw4 := HW4.out
          clear hil hz zf
          go_wp2_with fail
          have HRW4 := Aside0.mk (HRW3.out.put i HIL.out x)
          have HK4 := Aside0.mk ((((HK3.out.set (p := ⟨blk, i * 4, none⟩) rfl (.int .i64 x.p)).set (p := ⟨blk, i * 4 + 1, none⟩) rfl (.int .i64 x.q)).set (p := ⟨blk, i * 4 + 2, none⟩) rfl (.int .i64 x.b)).set (p := ⟨blk, i * 4 + 3, none⟩) rfl (.int .i64 x.k))
          go_roundw
          case measure =>
            have hm : l.length - ((j + 1 : Nat) : Int).toNat < l.length - ((j : Nat) : Int).toNat := by
              rw [Int.toNat_natCast, Int.toNat_natCast]
              exact Nat.sub_lt_sub_left HLT.out (Nat.lt_succ_self j)
            first | exact hm | (rw [hw3]; exact hm)
          case rel => exact ⟨i + 1, j + 1, _, by first | rw [hw4] | rfl, by first | rw [hw3] | rfl, ⟨HD.out.put x HX.out HP.out HIJ.out⟩, ⟨Nat.succ_lt_succ HIJ.out⟩, HRW4, HK4⟩
      · have he : j = l.length := by have := HD.out.jl; omega
        subst he
        have hnn : ¬ (((l.length : Nat) : Int) < (l.length : Int)) := by omega
        have hkk : i = kl := by have := HD.out.ilen; rw [List.take_length, HKL.out] at this; exact this
        subst hkk
        have hle : i ≤ l.length := Nat.le_of_lt HIJ.out
        have hcut := cut_from (P := Try.prog) 45 49 .i64 Try.underlying45 hi5 4 hs5 (some ⟨blk, 0, none⟩) l.length c (i : Int) (by omega) (by omega)
        have hto := cut_to (P := Try.prog) 45 49 .i64 Try.underlying45 hi5 (some ⟨blk, 0, none⟩) l.length c (i : Int) (by omega) (by omega) HC.out
        rw [Int.toNat_natCast, if_neg (by have := HC.out; have := HIJ.out; omega), Option.map_some, add_at, Nat.zero_add] at hcut
        rw [Int.toNat_natCast] at hto
        obtain ⟨cs, h1, h2⟩ := HRW.out
        have hsz : i * 4 + (l.length - i) * 4 ≤ cs.size := by
          have hlast : l.length - 1 < cur.length := by rw [HD.out.len]; have := HIJ.out; omega
          have := (Array.getElem?_eq_some_iff.1 (h2 (l.length - 1) _ (List.getElem?_eq_getElem hlast) 3 _ rfl)).1
          omega
        have hclr := fun ty => clear_row4 h1 (i * 4) (l.length - i) (c - i) hsz ty
        clear hlt h1 h2 hsz hle
        go_wp2_with fail
        go_ret
        have hf := HRW.out.clear i (List.replicate ((l.length - i) * 4) (.int .i64 0))
        have hh := HD.out.head
        rw [List.take_length] at hh
        rw [hh] at hf
        exact ⟨rfl, hf, kpCells _ _ HK.out⟩
end Go.Proofs.Ytkncmbbkehnagaa.Cm

set_option linter.unusedVariables false
set_option linter.unusedSimpArgs false
/-! better; MinFunc. -/
namespace Go.Proofs.Ytkncmbbkehnagaa.Cm
open Go.RowKit Go.Maps Go.Proofs.YtkncmbbkehnagaaW.PrintWords Go.Proofs.YtkncmbbkehnagaaW.PrintLast Go.Proofs.YtkncmbbkehnagaaW.PrintMore Go.Proofs.Ytkncmbbkehnagaa.Kp Go.Proofs.Ytkncmbbkehnagaa.Cp Go.Proofs.Ytkncmbbkehnagaa.PAll Go.Proofs.Ytkncmbbkehnagaa.Iter Go.Proofs.Ytkncmbbkehnagaa.St Go.Proofs.Ytkncmbbkehnagaa.Sp
attribute [local go_sem] max2_int min2_int max_two min_two max_three min_three max_four min_four

theorem lawI : Keyed Try.prog 3 := int_keyed Try.underlying3
theorem zeroI (w : World) : (zeroValue 3).run Try.prog w = .ok (.int .i64 0) w := by kernel_rfl
abbrev Dt := DataW Unit
def zd : Dt := .lit (.int .i64 0)
/-- A map of numbers in memory: block bm holds H. -/
structure HM (W : World) (bm : Nat) (H : Int → Int) : Prop where
  map : ∃ n, ∃ D : Dt, W.ownsMap Try.prog 3 (plainElem Try.prog 3) bm n D ∧ ∀ k : Int, (Lit.int .i64 k).wf = true → D.atKey (.int .i64 k) zd = .lit (.int .i64 (H k))
  rng : ∀ k, 0 ≤ H k ∧ H k ≤ 1000000
theorem HM.lt {W : World} {bm : Nat} {H : Int → Int} (h : HM W bm H) : bm < W.heap.size := by
  obtain ⟨n, D, h1, -⟩ := h.map
  exact h1.lt
theorem HM.keep {W W1 : World} {bm : Nat} {H : Int → Int} (h : HM W bm H) (hk : W1.heap[bm]? = W.heap[bm]?) : HM W1 bm H := by
  obtain ⟨n, D, ⟨es, clock, hb, hF, hs, hD⟩, hat⟩ := h.map
  exact ⟨⟨n, D, ⟨es, clock, hk.trans hb, hF, hs, hD⟩, hat⟩, h.rng⟩
theorem HM.below {W W1 : World} {bm : Nat} {H : Int → Int} (h : HM W bm H) (hb : Below W.heap.size W W1) : HM W1 bm H := h.keep (hb.block _ h.lt)
theorem rng_wf {x : Int} (h0 : -9223372036854775808 ≤ x) (h1 : x ≤ 9223372036854775807) : (Lit.int .i64 x).wf = true := by
  simp [Lit.wf, IntKind.min, IntKind.max, IntKind.bits, IntKind.signed]
  omega
/-- What was found, in its bounds. -/
def FDok (x : FD) : Prop := 0 ≤ x.b ∧ x.b ≤ 10000 ∧ 0 ≤ x.k ∧ x.k ≤ 10000
def cmpF (H : Int → Int) (a b : FD) : Int := if H b.b - H a.b ≠ 0 then H b.b - H a.b else if a.b - b.b ≠ 0 then a.b - b.b else a.k - b.k
set_option maxHeartbeats 4000000 in
set_option maxRecDepth 100000 in
theorem better {w : World} {bt bm : Nat} {H : Int → Int} (hm : HM w bm H) (hb : w.heap[bt]? = some (.cells #[.map (some bm)] 94 (0, 0))) (a b : FD) (ha : FDok a) (hbb : FDok b) :
    Calls Try.prog 38 #[.agg #[.int .i64 a.p, .int .i64 a.q, .int .i64 a.b, .int .i64 a.k], .agg #[.int .i64 b.p, .int .i64 b.q, .int .i64 b.b, .int .i64 b.k], .pointer (some ⟨bt, 0, none⟩)] w fun e w' => e = .returned (.int .i64 (cmpF H a b)) ∧ Below w.heap.size w w' := by
  obtain ⟨w1, hw1⟩ : ∃ w1, (w.alloc (.cells #[.int .i64 a.p, .int .i64 a.q, .int .i64 a.b, .int .i64 a.k] 49)).alloc (.cells #[.int .i64 b.p, .int .i64 b.q, .int .i64 b.b, .int .i64 b.k] 49) = w1 := ⟨_, rfl⟩
  obtain ⟨ba, hba⟩ : ∃ x, w.heap.size = x := ⟨_, rfl⟩
  obtain ⟨bb, hbb'⟩ : ∃ x, ba + 1 = x := ⟨_, rfl⟩
  have hB1 : Below w.heap.size w w1 := by rw [← hw1]; exact below_alloc (below_alloc (Below.refl _ _) _) _
  have hA1 : w1.heap[ba]? = some (.cells #[.int .i64 a.p, .int .i64 a.q, .int .i64 a.b, .int .i64 a.k] 49 (0, 0)) := by rw [← hw1, ← hba]; exact blk_alloc (blk_new w _) _
  have hBB1 : w1.heap[bb]? = some (.cells #[.int .i64 b.p, .int .i64 b.q, .int .i64 b.b, .int .i64 b.k] 49 (0, 0)) := by rw [← hw1, ← hbb', ← hba]; have := blk_new (w.alloc (.cells #[.int .i64 a.p, .int .i64 a.q, .int .i64 a.b, .int .i64 a.k] 49)) (.cells #[.int .i64 b.p, .int .i64 b.q, .int .i64 b.b, .int .i64 b.k] 49); simpa using this
  have hM1 := hm.below hB1
  have c0 : w1.cell? ⟨bt, 0, none⟩ = some (.map (some bm)) := (blk_cell (blk_below hb hB1) 0).trans rfl
  have a2 : w1.cell? ⟨ba, 2, none⟩ = some (.int .i64 a.b) := (blk_cell hA1 2).trans rfl
  have a3 : w1.cell? ⟨ba, 3, none⟩ = some (.int .i64 a.k) := (blk_cell hA1 3).trans rfl
  have b2 : w1.cell? ⟨bb, 2, none⟩ = some (.int .i64 b.b) := (blk_cell hBB1 2).trans rfl
  have b3 : w1.cell? ⟨bb, 3, none⟩ = some (.int .i64 b.k) := (blk_cell hBB1 3).trans rfl
  obtain ⟨n, D, hown, hat⟩ := hM1.map
  obtain ⟨e1, e2, e3, e4⟩ := ha
  obtain ⟨e5, e6, e7, e8⟩ := hbb
  have wfa : (Lit.int .i64 a.b).wf = true := rng_wf (by omega) (by omega)
  have wfb : (Lit.int .i64 b.b).wf = true := rng_wf (by omega) (by omega)
  have hca := hat _ wfa
  have hcb := hat _ wfb
  have hka : keyOf Try.prog 3 (.int .i64 a.b) = some (.int .i64 a.b) := keyOf_int_mk Try.underlying3 wfa
  have hkb : keyOf Try.prog 3 (.int .i64 b.b) = some (.int .i64 b.b) := keyOf_int_mk Try.underlying3 wfb
  obtain ⟨r1, r2⟩ := hM1.rng a.b
  obtain ⟨r3, r4⟩ := hM1.rng b.b
  obtain ⟨res, hres⟩ : ∃ r, cmpF H a b = r := ⟨_, rfl⟩
  have HRES := Aside0.mk hres
  rw [hres]
  obtain ⟨x, hx⟩ : ∃ x, H a.b = x := ⟨_, rfl⟩
  obtain ⟨y, hy⟩ : ∃ y, H b.b = y := ⟨_, rfl⟩
  rw [hx] at r1 r2 hca
  rw [hy] at r3 r4 hcb
  have HX := Aside0.mk (And.intro hx hy)
  have HB1 := Aside0.mk hB1
  have HW1 := Aside0.mk hw1
  have HBA := Aside0.mk hba
  have HBB := Aside0.mk hbb'
  clear hm hb hw1 hba hbb' hB1 hA1 hBB1 hM1 hat wfa wfb hres hx hy
  go_enter Try.func38, Try.ntmps38
  go_upto_region 1 with fail
  rw [HW1.out, HBA.out, HBB.out]
  go_wp2_with (first
    | (at_lookup; refine wpList_lookup_own_int _ rfl _ _ 94 rfl 3 3 .i64 lawI Try.underlying94 Try.underlying3 (zeroI _) bm n D rfl hown _ _ rfl hkb ?_; intro c2 hat hwc; have hcc : zd = .lit (.int .i64 0) := rfl; rw [← hcc, hcb] at hat; cases hat; clear hcc hwc)
    | (at_lookup; refine wpList_lookup_own_int _ rfl _ _ 94 rfl 3 3 .i64 lawI Try.underlying94 Try.underlying3 (zeroI _) bm n D rfl hown _ _ rfl hka ?_; intro c2 hat hwc; have hcc : zd = .lit (.int .i64 0) := rfl; rw [← hcc, hca] at hat; cases hat; clear hcc hwc)
    | fail)
  have HB2 := Aside0.mk (below_alloc HB1.out (.cells #[.int .i64 (y - x), .int .i64 (a.b - b.b), .int .i64 (a.k - b.k)] 3))
  have hrq : (if y - x ≠ 0 then y - x else if a.b - b.b ≠ 0 then a.b - b.b else a.k - b.k) = res := by
    rw [← HRES.out]
    unfold cmpF
    rw [HX.out.1, HX.out.2]
  refine (cmpor (blk_new w1 _)).mono ?_
  rintro ev w2 ⟨he, rfl⟩
  rw [hrq] at he
  subst he
  clear hown hca hcb hka hkb hrq
  go_wp2
  go_ret
  exact ⟨rfl, HB2.out⟩
/-- The least of all. -/
def minStep (H : Int → Int) (m x : FD) : FD := if cmpF H x m < 0 then x else m
def minF (H : Int → Int) : List FD → FD
  | [] => zFD
  | x :: l => l.foldl (minStep H) x
theorem minF_snoc (H : Int → Int) (l : List FD) (k : Nat) (hk : 1 ≤ k) (x : FD) (hx : l[k]? = some x) : minF H (l.take (k + 1)) = minStep H (minF H (l.take k)) x := by
  rw [take_snoc2 l k x hx]
  cases h : l.take k with
  | nil =>
    have h2 : (l.take k).length = 0 := by rw [h]; rfl
    have hl := (List.getElem?_eq_some_iff.1 hx).1
    rw [List.length_take] at h2
    omega
  | cons y r => simp [minF, List.foldl_append]
theorem minF_mem (H : Int → Int) : ∀ (l : List FD), l ≠ [] → minF H l ∈ l
  | x :: l, _ => by
    have key : ∀ (l : List FD) (x : FD), l.foldl (minStep H) x = x ∨ l.foldl (minStep H) x ∈ l := by
      intro l
      induction l with
      | nil => exact fun x => .inl rfl
      | cons y l ih =>
        intro x
        rw [List.foldl_cons]
        rcases ih (minStep H x y) with h | h
        · rw [h]
          unfold minStep
          split
          · exact .inr List.mem_cons_self
          · exact .inl rfl
        · exact .inr (List.mem_cons_of_mem _ h)
    show l.foldl (minStep H) x ∈ x :: l
    rcases key l x with h | h
    · rw [h]; exact List.mem_cons_self
    · exact List.mem_cons_of_mem _ h
/-- MinFunc's round. -/
structure Mi (w W : World) (b4 b5 : Nat) (m : FD) : Prop where
  below : Below w.heap.size w W
  x4 : W.heap[b4]? = some (.cells #[.int .i64 0, .int .i64 0, .int .i64 0, .int .i64 0] 49 (0, 0))
  x5 : W.heap[b5]? = some (.cells #[.int .i64 m.p, .int .i64 m.q, .int .i64 m.b, .int .i64 m.k] 49 (0, 0))
theorem four {w : World} {b t : Nat} {x y z u : Value} (h : w.heap[b]? = some (.cells #[x, y, z, u] t (0, 0))) :
    (w.cell? ⟨b, 0, none⟩ = some x ∧ w.cell? ⟨b, 1, none⟩ = some y ∧ w.cell? ⟨b, 2, none⟩ = some z ∧ w.cell? ⟨b, 3, none⟩ = some u) ∧ w.frozen? ⟨b, 0, none⟩ = false ∧ w.frozen? ⟨b, 1, none⟩ = false ∧ w.frozen? ⟨b, 2, none⟩ = false ∧ w.frozen? ⟨b, 3, none⟩ = false :=
  ⟨⟨(blk_cell h 0).trans rfl, (blk_cell h 1).trans rfl, (blk_cell h 2).trans rfl, (blk_cell h 3).trans rfl⟩, blk_frozen h 0, blk_frozen h 1, blk_frozen h 2, blk_frozen h 3⟩
theorem Mi.step {w W W1 : World} {b4 b5 : Nat} {m : FD} (h : Mi w W b4 b5 m) (hb : Below W.heap.size W W1) : Mi w W1 b4 b5 m := ⟨below_step h.below hb, blk_below h.x4 hb, blk_below h.x5 hb⟩
theorem put4 {W : World} {b t : Nat} {a c d e : Value} (h : W.heap[b]? = some (.cells #[a, c, d, e] t (0, 0))) (a' c' d' e' : Value) : ((((W.setCell ⟨b, 0, none⟩ a').setCell ⟨b, 1, none⟩ c').setCell ⟨b, 2, none⟩ d').setCell ⟨b, 3, none⟩ e').heap[b]? = some (.cells #[a', c', d', e'] t (0, 0)) := by
  have h1 : (W.setCell ⟨b, 0, none⟩ a').heap[b]? = some (.cells #[a', c, d, e] t (0, 0)) := by simpa using blk_set h 0 a'
  have h2 : ((W.setCell ⟨b, 0, none⟩ a').setCell ⟨b, 1, none⟩ c').heap[b]? = some (.cells #[a', c', d, e] t (0, 0)) := by simpa using blk_set h1 1 c'
  have h3 : (((W.setCell ⟨b, 0, none⟩ a').setCell ⟨b, 1, none⟩ c').setCell ⟨b, 2, none⟩ d').heap[b]? = some (.cells #[a', c', d', e] t (0, 0)) := by simpa using blk_set h2 2 d'
  simpa using blk_set h3 3 e'
theorem far4 {W : World} {b k t : Nat} {cs : Array Value} (h : W.heap[k]? = some (.cells cs t (0, 0))) (hne : k ≠ b) (a' c' d' e' : Value) : ((((W.setCell ⟨b, 0, none⟩ a').setCell ⟨b, 1, none⟩ c').setCell ⟨b, 2, none⟩ d').setCell ⟨b, 3, none⟩ e').heap[k]? = some (.cells cs t (0, 0)) :=
  blk_far (blk_far (blk_far (blk_far h (p := ⟨b, 0, none⟩) hne _) (p := ⟨b, 1, none⟩) hne _) (p := ⟨b, 2, none⟩) hne _) (p := ⟨b, 3, none⟩) hne _
theorem bel4 {w W : World} {n b : Nat} (h : Below n w W) (hn : n ≤ b) (a' c' d' e' : Value) : Below n w ((((W.setCell ⟨b, 0, none⟩ a').setCell ⟨b, 1, none⟩ c').setCell ⟨b, 2, none⟩ d').setCell ⟨b, 3, none⟩ e') :=
  (((h.setCell (p := ⟨b, 0, none⟩) hn _).setCell (p := ⟨b, 1, none⟩) hn _).setCell (p := ⟨b, 2, none⟩) hn _).setCell (p := ⟨b, 3, none⟩) hn _
theorem miHeld {w W W1 : World} {b4 b5 blk : Nat} {m x : FD} {l : List FD} {i : Nat} (h : Mi w W b4 b5 m) (hR : RowF w blk l) (hx : l[i]? = some x) (hb : Below W.heap.size W W1) :
    (W1.cell? ⟨b5, 0, none⟩ = some (.int .i64 m.p) ∧ W1.cell? ⟨b5, 1, none⟩ = some (.int .i64 m.q) ∧ W1.cell? ⟨b5, 2, none⟩ = some (.int .i64 m.b) ∧ W1.cell? ⟨b5, 3, none⟩ = some (.int .i64 m.k)) ∧
      W1.cell? ⟨blk, i * 4, none⟩ = some (.int .i64 x.p) ∧ W1.cell? ⟨blk, i * 4 + 1, none⟩ = some (.int .i64 x.q) ∧ W1.cell? ⟨blk, i * 4 + 2, none⟩ = some (.int .i64 x.b) ∧ W1.cell? ⟨blk, i * 4 + 3, none⟩ = some (.int .i64 x.k) :=
  ⟨(four (h.step hb).x5).1, ((hR.below (h.step hb).below).cell i x hx).1⟩
def reg_minf_7.T : Bool × List (List Nat × List Nat) := (true, [([], []), ([], []), ([], []), ([1, 2], [1, 2]), ([3], [3]), ([], []), ([0, 4, 5], [0, 4, 5]), ([6], [6])])
def reg_minf_7.B : List Nat := [0, 0, 0, 6, 14, 0, 63, 127]
theorem reg_minf_7.tab : rtab .any (opsOf Try.f43 7) = reg_minf_7.T := by kernel_rfl
theorem reg_minf_7.bits : waitsOk reg_minf_7.T.2 reg_minf_7.B = true := by kernel_rfl
set_option maxHeartbeats 4000000 in
set_option maxRecDepth 100000 in
theorem minf {w : World} {bt bm blk c : Nat} {H : Int → Int} {l : List FD} (hm : HM w bm H) (hb : w.heap[bt]? = some (.cells #[.map (some bm)] 94 (0, 0))) (hR : RowF w blk l) (hn : 0 < l.length) (hl : l.length ≤ 100000) (hok : ∀ x ∈ l, FDok x) :
    Calls Try.prog 43 #[.slice (some ⟨blk, 0, none⟩) l.length c, .func (.func 38) #[] #[.pointer (some ⟨bt, 0, none⟩)]] w fun e w' => e = .returned (.agg #[.int .i64 (minF H l).p, .int .i64 (minF H l).q, .int .i64 (minF H l).b, .int .i64 (minF H l).k]) ∧ Below w.heap.size w w' := by
  obtain ⟨R, hRR⟩ : ∃ R, minF H l = R := ⟨_, rfl⟩
  have HRE := Aside0.mk hRR
  rw [hRR]
  obtain ⟨x0, hx0⟩ : ∃ x0, l[0]? = some x0 := ⟨_, List.getElem?_eq_getElem hn⟩
  obtain ⟨w1, hw1⟩ : ∃ w1, w.alloc (.cells #[.int .i64 0, .int .i64 0, .int .i64 0, .int .i64 0] 49) = w1 := ⟨_, rfl⟩
  obtain ⟨b4, hb4⟩ : ∃ x, w.heap.size = x := ⟨_, rfl⟩
  have hB1 : Below w.heap.size w w1 := by rw [← hw1]; exact below_alloc (Below.refl _ _) _
  have HX4 : Aside0 (w1.heap[b4]? = some (.cells #[.int .i64 0, .int .i64 0, .int .i64 0, .int .i64 0] 49 (0, 0))) := ⟨by rw [← hw1, ← hb4]; exact blk_new w _⟩
  obtain ⟨⟨c0, c1, c2, c3⟩, -⟩ := (hR.below hB1).cell 0 x0 hx0
  simp only [Nat.zero_mul, Nat.zero_add] at c0 c1 c2 c3
  have HM0 := Aside0.mk hm
  have HB := Aside0.mk hb
  have HR := Aside0.mk hR
  have HL := Aside0.mk hl
  have HOK := Aside0.mk hok
  have HX0 := Aside0.mk hx0
  have HB1 := Aside0.mk hB1
  have HW1 := Aside0.mk hw1
  have HW4 := Aside0.mk hb4
  have hn1 : ¬ ((l.length : Int) < 1) := by omega
  have hn2 : (0 : Int) < (l.length : Int) := by omega
  clear hm hb hR hl hok hx0 hB1 hw1 hb4 hRR hn
  go_enter Try.func43, Try.ntmps43
  go_upto_region 1 with fail
  rw [HW1.out, HW4.out]
  go_wp2_with fail
  obtain ⟨w2, hw2⟩ : ∃ w2, w1.alloc (.cells #[.int .i64 x0.p, .int .i64 x0.q, .int .i64 x0.b, .int .i64 x0.k] 49) = w2 := ⟨_, rfl⟩
  obtain ⟨b5, hb5⟩ : ∃ x, w1.heap.size = x := ⟨_, rfl⟩
  have HM2 : Aside0 (Mi w w2 b4 b5 (minF H (l.take 1))) := ⟨⟨by rw [← hw2]; exact below_alloc HB1.out _, by rw [← hw2]; exact blk_alloc HX4.out _, by
    have e : minF H (l.take 1) = x0 := by
      rw [take_snoc2 l 0 x0 HX0.out]
      rfl
    rw [e, ← hw2, ← hb5]
    exact blk_new w1 _⟩⟩
  have H45 : Aside0 (b4 < b5) := ⟨by rw [← hb5]; exact blk_lt HX4.out⟩
  have HL1 : Aside0 (1 ≤ l.length) := ⟨(List.getElem?_eq_some_iff.1 HX0.out).1⟩
  rw [hw2, hb5]
  clear hw2 hb5 c0 c1 c2 c3 hn1 hn2
  go_loopw [6] (fun v6 wr => ∃ (k : Nat) (m : FD), 1 ≤ k ∧ k ≤ l.length ∧ v6 = .int .i64 (k : Int) ∧ Aside0 (m = minF H (l.take k)) ∧ Aside0 (Mi w wr b4 b5 m)) (fun v6 _ => l.length - (intOf v6).toNat)
  case atStart => exact ⟨1, _, Nat.le_refl _, HL1.out, rfl, ⟨rfl⟩, HM2⟩
  case round =>
    clear HM2
    obtain ⟨k, m, hk1, hk, rfl, HME, HMI⟩ := hrel
    by_cases hlt : k < l.length
    · have hlt2 : (k : Int) < (l.length : Int) := by omega
      have HLT := Aside0.mk hlt
      have HK1 := Aside0.mk hk1
      have hw3 : wrap64 ((k : Int) + 1) = ((k + 1 : Nat) : Int) := by rw [show (k : Int) + 1 = ((k + 1 : Nat) : Int) by omega]; exact wrap_small _ (by omega) (by have := HL.out; omega)
      have HW3 := Aside0.mk hw3
      obtain ⟨x, hx⟩ : ∃ x, l[k]? = some x := ⟨_, List.getElem?_eq_getElem hlt⟩
      have HX := Aside0.mk hx
      have HXK := Aside0.mk (HOK.out x (List.mem_of_getElem? hx))
      have HMK : Aside0 (FDok m) := ⟨by
        rw [HME.out]
        have hne : l.take k ≠ [] := fun e => by
          have h2 : (l.take k).length = 0 := by rw [e]; rfl
          rw [List.length_take] at h2
          omega
        exact HOK.out _ (List.mem_of_mem_take (minF_mem H _ hne))⟩
      have HST : Aside0 (minF H (l.take (k + 1)) = minStep H m x) := ⟨by rw [minF_snoc H l k hk1 x hx, HME.out]⟩
      clear hk hk1 hlt hx hw3
      go_upto_region 7 with fail
      refine start_ (n := 8) (S := fun w' => (w'.cell? ⟨b5, 0, none⟩ = some (.int .i64 m.p) ∧ w'.cell? ⟨b5, 1, none⟩ = some (.int .i64 m.q) ∧ w'.cell? ⟨b5, 2, none⟩ = some (.int .i64 m.b) ∧ w'.cell? ⟨b5, 3, none⟩ = some (.int .i64 m.k)) ∧ w'.cell? ⟨blk, k * 4, none⟩ = some (.int .i64 x.p) ∧ w'.cell? ⟨blk, k * 4 + 1, none⟩ = some (.int .i64 x.q) ∧ w'.cell? ⟨blk, k * 4 + 2, none⟩ = some (.int .i64 x.b) ∧ w'.cell? ⟨blk, k * 4 + 3, none⟩ = some (.int .i64 x.k)) (ds := []) #[false, false, false, false, false, false, false, false] (by kernel_rfl) rfl rfl (miHeld HMI.out HR.out HX.out (below_drew (Below.refl _ _))) (fun hHeld => ?_)
      refine with_tabW reg_minf_7.tab reg_minf_7.bits (fun HT_ HW_ => ?_)
      refine pure_ (i := 0) (N := (some 20)) (v := ?_) (a' := ?_) #[true, false, false, false, false, false, false, false] rfl rfl (any_of HT_.out (by kernel_rfl)) (fun _ _ _ h => h) (Or.inl ⟨by rfl, ?_⟩) ?_ ?_
      rotate_left
      · intro w'
        go_simp
        first | done | with_reducible rfl
      rotate_left
      · simp only [Act.put, List.setIfInBounds_toArray, List.set_cons_zero, List.set_cons_succ, i64_w, i32_w]
        rfl
      refine pure_ (i := 1) (N := (some 21)) (v := ?_) (a' := ?_) #[true, true, false, false, false, false, false, false] rfl rfl (any_of HT_.out (by kernel_rfl)) (fun _ _ _ h => h) (Or.inl ⟨by rfl, ?_⟩) ?_ ?_
      rotate_left
      · intro w'
        go_simp
        first | done | with_reducible rfl
      rotate_left
      · simp only [Act.put, List.setIfInBounds_toArray, List.set_cons_zero, List.set_cons_succ, i64_w, i32_w]
        rfl
      refine pure_ (i := 2) (N := (some 22)) (v := ?_) (a' := ?_) #[true, true, true, false, false, false, false, false] rfl rfl (any_of HT_.out (by kernel_rfl)) (fun _ _ _ h => h) (Or.inl ⟨by rfl, ?_⟩) ?_ ?_
      rotate_left
      · intro w'
        go_simp
        first | done | with_reducible rfl
      rotate_left
      · simp only [Act.put, List.setIfInBounds_toArray, List.set_cons_zero, List.set_cons_succ, i64_w, i32_w]
        rfl
      refine pure_ (i := 3) (N := (some 23)) (v := ?_) (a' := ?_) #[true, true, true, true, false, false, false, false] rfl rfl (any_of HT_.out (by kernel_rfl)) (fun _ _ _ h => h) (Or.inl ⟨by rfl, ?_⟩) ?_ ?_
      rotate_left
      · intro w'
        go_simp
        first | done | with_reducible rfl
      rotate_left
      · simp only [Act.put, List.setIfInBounds_toArray, List.set_cons_zero, List.set_cons_succ, i64_w, i32_w]
        rfl
      refine take_ (i := 4) (N := (some 24)) (v := ?_) (a' := ?_) #[true, true, true, true, true, false, false, false] rfl rfl (take_ofW HT_.out HW_.out (by kernel_rfl)) (fun _ _ _ h => h) (Or.inl ⟨by rfl, ?_⟩) hHeld ?_ ?_
      rotate_left
      · rintro w' ⟨⟨s0, s1, s2, s3⟩, s4, s5, s6, s7⟩
        go_simp
        first | done | with_reducible rfl
      rotate_left
      · simp only [Act.put, List.setIfInBounds_toArray, List.set_cons_zero, List.set_cons_succ, i64_w, i32_w]
        rfl
      refine take_ (i := 5) (N := (some 25)) (v := ?_) (a' := ?_) #[true, true, true, true, true, true, false, false] rfl rfl (take_ofW HT_.out HW_.out (by kernel_rfl)) (fun _ _ _ h => h) (Or.inl ⟨by rfl, ?_⟩) hHeld ?_ ?_
      rotate_left
      · rintro w' ⟨⟨s0, s1, s2, s3⟩, s4, s5, s6, s7⟩
        go_simp
        first | done | with_reducible rfl
      rotate_left
      · simp only [Act.put, List.setIfInBounds_toArray, List.set_cons_zero, List.set_cons_succ, i64_w, i32_w]
        rfl
      refine one_ (i := 6) (N := (some 26)) #[true, true, true, true, true, true, true, false] rfl rfl (one_of HT_.out (by kernel_rfl)) (by decide) (fun K hK => ?_)
      go_simp
      have hcc_ := better (HM0.out.below (HMI.out.step (below_drew (Below.refl _ _))).below) (blk_below HB.out (HMI.out.step (below_drew (Below.refl _ _))).below) x m HXK.out HMK.out
      refine hcc_.mono ?_
      clear hcc_
      rintro ev w4 ⟨rfl, hb4_⟩
      have HMI4 := Aside0.mk (HMI.out.step (below_step (below_drew (Below.refl _ _)) hb4_))
      clear hb4_
      refine hK.out _ _ (miHeld HMI4.out HR.out HX.out (Below.refl _ _)) (fun hHeld => ?_)
      clear hK K
      refine pure_ (i := 7) (N := (some 27)) (v := ?_) (a' := ?_) #[true, true, true, true, true, true, true, true] rfl rfl (any_of HT_.out (by kernel_rfl)) (fun _ _ _ h => h) (Or.inl ⟨by rfl, ?_⟩) ?_ ?_
      rotate_left
      · intro w'
        go_simp
        first | done | with_reducible rfl
      rotate_left
      · simp only [Act.put, List.setIfInBounds_toArray, List.set_cons_zero, List.set_cons_succ, i64_w, i32_w]
        rfl
      refine done_ (done_of HT_.out (by kernel_rfl)) ?_
      clear hHeld HT_ HW_
      have hw3 := HW3.out
      obtain ⟨q, hq⟩ : ∃ q, cmpF H x m = q := ⟨_, rfl⟩
      rw [hq]
      have hmi := HMI4.out
      obtain ⟨⟨m0, m1, m2, m3⟩, n0, n1, n2, n3⟩ := four hmi.x5
      obtain ⟨⟨y0, y1, y2, y3⟩, -⟩ := (HR.out.below hmi.below).cell k x HX.out
      by_cases hlt0 : q < 0
      · have d0 : decide (q < 0) = true := decide_eq_true hlt0
        have HS2 : Aside0 (minF H (l.take (k + 1)) = x) := ⟨by rw [HST.out]; unfold minStep; rw [hq, if_pos hlt0]⟩
        rw [d0]
        clear hq hlt0 hmi
        go_wp2_with fail
        have HMI5 : Aside0 (Mi w ((((w4.setCell ⟨b5, 0, none⟩ (.int .i64 x.p)).setCell ⟨b5, 1, none⟩ (.int .i64 x.q)).setCell ⟨b5, 2, none⟩ (.int .i64 x.b)).setCell ⟨b5, 3, none⟩ (.int .i64 x.k)) b4 b5 x) := ⟨⟨bel4 HMI4.out.below (by have := H45.out; have := HW4.out; omega) _ _ _ _, far4 HMI4.out.x4 (Nat.ne_of_lt H45.out) _ _ _ _, put4 HMI4.out.x5 _ _ _ _⟩⟩
        go_roundw
        case measure =>
          have hm : l.length - ((k + 1 : Nat) : Int).toNat < l.length - ((k : Nat) : Int).toNat := by
            rw [Int.toNat_natCast, Int.toNat_natCast]
            exact Nat.sub_lt_sub_left HLT.out (Nat.lt_succ_self k)
          first | exact hm | (rw [hw3]; exact hm)
        case rel => exact ⟨k + 1, x, Nat.le_succ_of_le HK1.out, HLT.out, by first | rw [hw3] | rfl, ⟨HS2.out.symm⟩, HMI5⟩
      · have d0 : decide (q < 0) = false := decide_eq_false hlt0
        have HS2 : Aside0 (minF H (l.take (k + 1)) = m) := ⟨by rw [HST.out]; unfold minStep; rw [hq, if_neg hlt0]⟩
        rw [d0]
        clear hq hlt0 hmi
        go_wp2_with fail
        go_roundw
        case measure =>
          have hm : l.length - ((k + 1 : Nat) : Int).toNat < l.length - ((k : Nat) : Int).toNat := by
            rw [Int.toNat_natCast, Int.toNat_natCast]
            exact Nat.sub_lt_sub_left HLT.out (Nat.lt_succ_self k)
          first | exact hm | (rw [hw3]; exact hm)
        case rel => exact ⟨k + 1, m, Nat.le_succ_of_le HK1.out, HLT.out, by first | rw [hw3] | rfl, ⟨HS2.out.symm⟩, HMI4⟩
    · have he : k = l.length := by omega
      subst he
      have hnn : ¬ (((l.length : Nat) : Int) < (l.length : Int)) := by omega
      have hme := HME.out
      rw [List.take_length, HRE.out] at hme
      subst hme
      obtain ⟨⟨m0, m1, m2, m3⟩, n0, n1, n2, n3⟩ := four HMI.out.x5
      obtain ⟨⟨z0, z1, z2, z3⟩, f0, f1, f2, f3⟩ := four HMI.out.x4
      have HX9 := Aside0.mk (put4 HMI.out.x4 (.int .i64 m.p) (.int .i64 m.q) (.int .i64 m.b) (.int .i64 m.k))
      have HB9 := Aside0.mk (bel4 HMI.out.below (by rw [HW4.out]; exact Nat.le_refl _) (.int .i64 m.p) (.int .i64 m.q) (.int .i64 m.b) (.int .i64 m.k) : Below w.heap.size w ((((wr.setCell ⟨b4, 0, none⟩ (.int .i64 m.p)).setCell ⟨b4, 1, none⟩ (.int .i64 m.q)).setCell ⟨b4, 2, none⟩ (.int .i64 m.b)).setCell ⟨b4, 3, none⟩ (.int .i64 m.k)))
      clear hlt hk hk1 HME
      go_wp2_with fail
      exact bodyPost_ret (results_single rfl (.cell b4 49 #[.int .i64 m.p, .int .i64 m.q, .int .i64 m.b, .int .i64 m.k] (0, 0) _ rfl HX9.out Try.underlying49 rfl (by kernel_rfl) .nil)) rfl ⟨rfl, HB9.out⟩
end Go.Proofs.Ytkncmbbkehnagaa.Cm

set_option linter.unusedVariables false
set_option linter.unusedSimpArgs false
set_option linter.unusedSectionVars false
/-! Maps keyed by pairs of numbers, plainly. -/
namespace Go.Proofs.Ytkncmbbkehnagaa.Cm
open Go.RowKit Go.Maps Go.Proofs.YtkncmbbkehnagaaW.PrintWords Go.Proofs.YtkncmbbkehnagaaW.PrintLast Go.Proofs.YtkncmbbkehnagaaW.PrintMore Go.Proofs.Ytkncmbbkehnagaa.Kp Go.Proofs.Ytkncmbbkehnagaa.Cp Go.Proofs.Ytkncmbbkehnagaa.PAll Go.Proofs.Ytkncmbbkehnagaa.Iter Go.Proofs.Ytkncmbbkehnagaa.St Go.Proofs.Ytkncmbbkehnagaa.Sp

theorem laidOut : laidOutB Try.prog = true := by kernel_rfl
theorem lawR : Keyed Try.prog 31 := Keyed.of_law (deep_law_laid laidOut (m := 2) (by omega) (of_decide_eq_true (by kernel_rfl)) (by kernel_rfl) (by kernel_rfl))
theorem lawS : Keyed Try.prog 40 := Keyed.of_law (deep_law_laid laidOut (m := 2) (by omega) (of_decide_eq_true (by kernel_rfl)) (by kernel_rfl) (by kernel_rfl))
def enc2 (x : Rf) : Value := .agg #[.int .i64 x.1, .int .i64 x.2]
theorem enc2_inj {x y : Rf} (h : enc2 x = enc2 y) : x = y := by
  obtain ⟨a, b⟩ := x
  obtain ⟨c, d⟩ := y
  simp only [enc2, Value.agg.injEq, Array.mk.injEq, List.cons.injEq, Value.int.injEq, true_and, and_true] at h
  rw [h.1, h.2]
def Wf2 (x : Rf) : Prop := (Lit.int .i64 x.1).wf = true ∧ (Lit.int .i64 x.2).wf = true
theorem key2 {P : Program} {k t : TypeId} {f0 f1 : Field} (hu : P.underlying k = some (.struct #[f0, f1])) (ht : P.keyType k = true) (hc : P.cellsOf k = 2) (hi : P.underlying t = some (.int .i64))
    (hf : (f0.type == t && f1.type == t && f0.offset == 0 && f1.offset == 1 && f0.name != "_" && f1.name != "_" && P.cellsOf t == 1 && decide (1 ≤ P.types.size)) = true) (a b : Int) (h1 : (Lit.int .i64 a).wf = true) (h2 : (Lit.int .i64 b).wf = true) : ∃ l, keyOf P k (enc2 (a, b)) = some l := by
  simp only [Bool.and_eq_true, beq_iff_eq, bne_iff_ne, decide_eq_true_eq] at hf
  obtain ⟨⟨⟨⟨⟨⟨⟨e0, e1⟩, o0⟩, o1⟩, n0⟩, n1⟩, c1⟩, hs⟩ := hf
  obtain ⟨d, hd⟩ : ∃ d, P.types.size = d + 1 := ⟨P.types.size - 1, by omega⟩
  refine ⟨.string (keyBytes [.int .i64 a, .int .i64 b]), ?_⟩
  simp [keyOf, hu, ht, enc2, Value.formed, hc, hd, Program.keyLits, Value.cells, e0, e1, o0, o1, n0, n1, c1, hi, h1, h2]
theorem keyR (x : Rf) (h : Wf2 x) : ∃ l, keyOf Try.prog 31 (enc2 x) = some l := by
  obtain ⟨a, b⟩ := x
  obtain ⟨h1, h2⟩ := h
  exact key2 Try.underlying31 (by kernel_rfl) (by kernel_rfl) Try.underlying3 (by kernel_rfl) a b h1 h2
theorem keyS (x : Rf) (h : Wf2 x) : ∃ l, keyOf Try.prog 40 (enc2 x) = some l := by
  obtain ⟨a, b⟩ := x
  obtain ⟨h1, h2⟩ := h
  exact key2 Try.underlying40 (by kernel_rfl) (by kernel_rfl) Try.underlying3 (by kernel_rfl) a b h1 h2
open Go.ChangeMaps (setBlock heap_setBlock_same heap_setBlock_other)
/-- Just map m has turned. -/
structure Tn (W W1 : World) (m : Nat) : Prop where
  os : W1.os = W.os
  tape : W1.tape = W.tape
  output : W1.output = W.output
  size : W1.heap.size = W.heap.size
  block : ∀ k, k ≠ m → W1.heap[k]? = W.heap[k]?
theorem Tn.of {W : World} {m clock : Nat} {es : Array MapEntry} (hb : W.heap[m]? = some (.map es clock)) (o : Obj) : Tn W (setBlock W m o) m :=
  ⟨rfl, rfl, rfl, by simp [setBlock], fun k hk => heap_setBlock_other hb o hk⟩
theorem Tn.kp {w W W1 : World} {m : Nat} {S : Nat → Prop} (h : Tn W W1 m) (hk : Kp S w W) (hm : S m) : Kp S w W1 :=
  ⟨⟨h.os.trans hk.bel.os, h.tape.trans hk.bel.tape, h.output.trans hk.bel.output, by rw [h.size]; exact hk.bel.size, fun k hk0 => absurd hk0 (Nat.not_lt_zero _)⟩, fun k hlt hn => (h.block k (fun e => hn (e ▸ hm))).trans (hk.block k hlt hn)⟩
theorem Tn.blk {W W1 : World} {m : Nat} (h : Tn W W1 m) {k : Nat} {o : Obj} (hk : W.heap[k]? = some o) (hne : k ≠ m) : W1.heap[k]? = some o := (h.block k hne).trans hk
/-- A map that holds L. -/
structure MapAt (W : World) (m : Nat) (L : List (Rf × Rf)) : Prop where
  mem : ∃ es clock, W.heap[m]? = some (.map es clock) ∧ es.toList.map (fun e => (e.key, e.val)) = L.map (fun x => (enc2 x.1, enc2 x.2)) ∧ ∀ e ∈ es.toList, e.born < clock
  keys : ∀ x ∈ L, Wf2 x.1
  apart : L.Pairwise (fun x y => x.1 ≠ y.1)
theorem MapAt.lt {W : World} {m : Nat} {L : List (Rf × Rf)} (h : MapAt W m L) : m < W.heap.size := by
  obtain ⟨es, clock, h1, -, -⟩ := h.mem
  exact blk_lt h1
theorem MapAt.keep {W W1 : World} {m : Nat} {L : List (Rf × Rf)} (h : MapAt W m L) (hk : W1.heap[m]? = W.heap[m]?) : MapAt W1 m L := by
  obtain ⟨es, clock, h1, h2, h3⟩ := h.mem
  exact ⟨⟨es, clock, hk.trans h1, h2, h3⟩, h.keys, h.apart⟩
theorem MapAt.below {W W1 : World} {m : Nat} {L : List (Rf × Rf)} (h : MapAt W m L) (hb : Below W.heap.size W W1) : MapAt W1 m L := h.keep (hb.block _ h.lt)
theorem MapAt.made (W : World) : MapAt (W.alloc (.map #[] 0)) W.heap.size [] := ⟨⟨#[], 0, blk_new W _, rfl, fun e h => by simp at h⟩, fun x h => by simp at h, List.Pairwise.nil⟩
def hasL (L : List (Rf × Rf)) (a : Rf) : Bool := L.any (fun x => rfB a x.1)
def getL (L : List (Rf × Rf)) (a : Rf) : Rf := ((L.find? (fun x => rfB a x.1)).map (·.2)).getD (0, 0)
theorem rfB_iff {a b : Rf} : rfB a b = true ↔ b = a := by
  obtain ⟨a1, a2⟩ := a
  obtain ⟨b1, b2⟩ := b
  simp [rfB]
theorem getL_mem {L : List (Rf × Rf)} (hp : L.Pairwise (fun x y => x.1 ≠ y.1)) {a b : Rf} (h : (a, b) ∈ L) : getL L a = b ∧ hasL L a = true := by
  have hh : hasL L a = true := List.any_eq_true.2 ⟨_, h, rfB_iff.2 rfl⟩
  refine ⟨?_, hh⟩
  unfold getL
  cases hf : L.find? (fun x => rfB a x.1) with
  | none =>
    have := List.find?_eq_none.1 hf _ h
    exact absurd (rfB_iff.2 rfl) this
  | some y =>
    have h1 := List.mem_of_find?_eq_some hf
    have h2 := rfB_iff.1 (List.find?_some (p := fun x : Rf × Rf => rfB a x.1) hf)
    obtain ⟨y1, y2⟩ := y
    simp only at h2
    subst h2
    show y2 = b
    by_cases e : y2 = b
    · exact e
    · exfalso
      have hpw := hp
      obtain ⟨i, hi, he⟩ := List.getElem_of_mem h
      obtain ⟨j, hj, he2⟩ := List.getElem_of_mem h1
      have hne : i ≠ j := by
        rintro rfl
        rw [he] at he2
        injection he2 with _ he2
        exact e he2.symm
      rcases Nat.lt_or_gt_of_ne hne with hlt | hlt
      · exact List.pairwise_iff_getElem.1 hp i j hi hj hlt (by rw [he, he2])
      · exact List.pairwise_iff_getElem.1 hp j i hj hi hlt (by rw [he, he2])
theorem hasL_false {L : List (Rf × Rf)} {a : Rf} : hasL L a = false ↔ ∀ x ∈ L, x.1 ≠ a := by
  unfold hasL
  rw [List.any_eq_false]
  constructor
  · intro h x hx e
    exact h x hx (rfB_iff.2 e)
  · intro h x hx e
    exact h x hx (rfB_iff.1 e)
theorem getL_none {L : List (Rf × Rf)} {a : Rf} (h : hasL L a = false) : getL L a = (0, 0) := by
  unfold getL
  rw [List.find?_eq_none.2 (fun x hx e => hasL_false.1 h x hx (rfB_iff.1 e))]
  rfl
section
variable {kt t et : TypeId} (K : Keyed Try.prog kt) (hkey : ∀ x : Rf, Wf2 x → ∃ l, keyOf Try.prog kt (enc2 x) = some l) (ht : Try.prog.underlying t = some (.map kt et)) (hz : ∀ w, (zeroValue et).run Try.prog w = .ok (enc2 (0, 0)) w)
include K hkey
theorem find2 (w : World) {es : List MapEntry} {L : List (Rf × Rf)} (hm : es.map (fun e => (e.key, e.val)) = L.map (fun x => (enc2 x.1, enc2 x.2))) (hk : ∀ x ∈ L, Wf2 x.1) (a : Rf) (ha : Wf2 a) :
    ((Instr.findKey kt (enc2 a) es).run Try.prog w = .ok none w ∧ hasL L a = false) ∨ ∃ j b, (Instr.findKey kt (enc2 a) es).run Try.prog w = .ok (some (j, enc2 b)) w ∧ L[j]? = some (a, b) ∧ ∃ e, es[j]? = some e ∧ e.key = enc2 a ∧ e.val = enc2 b := by
  obtain ⟨l, hl⟩ := hkey a ha
  have at_ : ∀ (j : Nat) (e : MapEntry), es[j]? = some e → ∃ x, L[j]? = some x ∧ e.key = enc2 x.1 ∧ e.val = enc2 x.2 := fun j e he => by
    have h1 : (es.map (fun e => (e.key, e.val)))[j]? = some (e.key, e.val) := by rw [List.getElem?_map, he]; rfl
    rw [hm, List.getElem?_map] at h1
    obtain ⟨x, hx, hx2⟩ := Option.map_eq_some_iff.1 h1
    injection hx2 with e1 e2
    exact ⟨x, hx, e1.symm, e2.symm⟩
  rcases K.find w hl es (fun e he => by
    obtain ⟨j, hj⟩ := List.getElem?_of_mem he
    obtain ⟨x, hx, e1, -⟩ := at_ j e hj
    rw [e1]
    exact hkey x.1 (hk x (List.mem_of_getElem? hx))) with ⟨h1, h2⟩ | ⟨j, e, h1, h2, h3⟩
  · refine .inl ⟨h1, hasL_false.2 (fun x hx e => ?_)⟩
    obtain ⟨j, hj⟩ := List.getElem?_of_mem hx
    have h4 : (L.map (fun x => (enc2 x.1, enc2 x.2)))[j]? = some (enc2 x.1, enc2 x.2) := by rw [List.getElem?_map, hj]; rfl
    rw [← hm, List.getElem?_map] at h4
    obtain ⟨y, hy, hy2⟩ := Option.map_eq_some_iff.1 h4
    injection hy2 with e1 e2
    exact h2 y (List.mem_of_getElem? hy) (by rw [e1, e])
  · obtain ⟨x, hx, e1, e2⟩ := at_ j e h2
    have e3 : x.1 = a := enc2_inj (e1.symm.trans h3)
    exact .inr ⟨j, x.2, by rw [h1, e2], by rw [hx, ← e3], e, h2, h3, e2⟩
include ht hz
theorem MapAt.look {W : World} {m : Nat} {L : List (Rf × Rf)} (h : MapAt W m L) (a : Rf) (ha : Wf2 a) :
    (Instr.lookup t (.map (some m)) (enc2 a) true).run Try.prog W = .ok (.tuple #[enc2 (getL L a), .bool (hasL L a)]) W := by
  obtain ⟨es, clock, h1, h2, h3⟩ := h.mem
  obtain ⟨l, hl⟩ := hkey a ha
  rcases find2 K hkey W h2 h.keys a ha with ⟨f1, f2⟩ | ⟨j, b, f1, f2, -⟩
  · rw [f2, getL_none f2]
    simp [Instr.lookup, run_underlying ht, MapKept.run_getObj_map h1, K.check W _ hl, f1, hz, Result.andThen]
  · obtain ⟨g1, g2⟩ := getL_mem h.apart (List.mem_of_getElem? f2)
    rw [g1, g2]
    simp [Instr.lookup, run_underlying ht, MapKept.run_getObj_map h1, K.check W _ hl, f1, Result.andThen]
theorem MapAt.drop {W : World} {m : Nat} {L : List (Rf × Rf)} (h : MapAt W m L) (a : Rf) (ha : Wf2 a) :
    ∃ W1, (∀ ty, (Builtin.delete_ #[t, kt] ty #[.map (some m), enc2 a]).run Try.prog W = .ok (.tuple #[]) W1) ∧ MapAt W1 m (L.filter (fun x => !rfB a x.1)) ∧ Tn W W1 m := by
  obtain ⟨es, clock, h1, h2, h3⟩ := h.mem
  obtain ⟨l, hl⟩ := hkey a ha
  have sub : ∀ x ∈ L.filter (fun x => !rfB a x.1), Wf2 x.1 := fun x hx => h.keys x (List.mem_filter.1 hx).1
  rcases find2 K hkey W h2 h.keys a ha with ⟨f1, f2⟩ | ⟨j, b, f1, f2, e, f3, f4, f5⟩
  · refine ⟨setBlock W m (.map es clock), ?_, ?_, Tn.of h1 _⟩
    · intro ty
      simp [Builtin.delete_, run_underlying ht, MapKept.run_getObj_map h1, K.check W _ hl, f1, MapKept.run_setObj_map _ h1, Result.andThen, setBlock]
    · have e1 : L.filter (fun x => !rfB a x.1) = L := List.filter_eq_self.2 (fun x hx => by
        cases hq : rfB a x.1
        · rfl
        · exact absurd (rfB_iff.1 hq) (hasL_false.1 f2 x hx))
      rw [e1]
      exact ⟨⟨es, clock, heap_setBlock_same h1 _, h2, h3⟩, h.keys, h.apart⟩
  · refine ⟨setBlock W m (.map (es.eraseIdxIfInBounds j) clock), ?_, ⟨⟨_, clock, heap_setBlock_same h1 _, ?_, ?_⟩, sub, h.apart.filter _⟩, Tn.of h1 _⟩
    · intro ty
      simp [Builtin.delete_, run_underlying ht, MapKept.run_getObj_map h1, K.check W _ hl, f1, MapKept.run_setObj_map _ h1, Result.andThen, setBlock]
    · have e1 : (es.eraseIdxIfInBounds j).toList = es.toList.eraseIdx j := by simp
      have e2 : L.filter (fun x => !rfB a x.1) = L.eraseIdx j := by
        exact ChangeMaps.filter_eq_eraseIdx (fun x : Rf × Rf => rfB a x.1) L j (a, b) f2 (rfB_iff.2 rfl) (h.apart.imp (fun {x y} hne hh => hne ((rfB_iff.1 hh.1).trans (rfB_iff.1 hh.2).symm)))
      rw [e1, e2, ChangeMaps.map_eraseIdx, ChangeMaps.map_eraseIdx, h2]
    · intro x hx
      have e1 : (es.eraseIdxIfInBounds j).toList = es.toList.eraseIdx j := by simp
      rw [e1] at hx
      exact h3 x (List.mem_of_mem_eraseIdx hx)
omit K hkey hz in
theorem MapAt.len {W : World} {m : Nat} {L : List (Rf × Rf)} (h : MapAt W m L) (ty : TypeId) : (Builtin.len_ #[t] ty #[.map (some m)]).run Try.prog W = .ok (.int .i64 L.length) W := by
  obtain ⟨es, clock, h1, h2, h3⟩ := h.mem
  have e1 : es.size = L.length := by
    have := congrArg List.length h2
    simpa using this
  simp [Builtin.len_, run_underlying ht, MapKept.run_getObj_map h1, goInt, Result.andThen, e1]
/-- An entry is made, then stored into. -/
theorem MapAt.entry {W : World} {m : Nat} {L : List (Rf × Rf)} (h : MapAt W m L) (a : Rf) (ha : Wf2 a) (hn : hasL L a = false) :
    ∃ (c : Nat) (W1 : World), (Instr.mapEntry t (.map (some m)) (enc2 a)).run Try.prog W = .ok (.tuple #[enc2 (0, 0), .int .i64 (c : Int)]) W1 ∧ Tn W W1 m ∧
      ∀ (b : Rf) (W2 : World), W2.heap[m]? = W1.heap[m]? → ∃ W3, (Instr.entryStore t (.map (some m)) (.int .i64 (c : Int)) (enc2 b)).run Try.prog W2 = .ok () W3 ∧ MapAt W3 m (L ++ [(a, b)]) ∧ Tn W2 W3 m := by
  obtain ⟨es, clock, h1, h2, h3⟩ := h.mem
  obtain ⟨l, hl⟩ := hkey a ha
  rcases find2 K hkey W h2 h.keys a ha with ⟨f1, f2⟩ | ⟨j, b, f1, f2, -⟩
  · refine ⟨clock, setBlock W m (.map (es.push { key := enc2 a, val := enc2 (0, 0), born := clock }) (clock + 1)), ?_, Tn.of h1 _, fun b W2 hW2 => ?_⟩
    · simp [Instr.mapEntry, run_underlying ht, MapKept.run_getObj_map h1, K.check W _ hl, f1, hz, MapKept.run_setObj_map _ h1, Result.andThen, setBlock, goInt]
    · have hh : W2.heap[m]? = some (.map (es.push { key := enc2 a, val := enc2 (0, 0), born := clock }) (clock + 1)) := hW2.trans (heap_setBlock_same h1 _)
      have hfind : (es.push { key := enc2 a, val := enc2 (0, 0), born := clock }).findIdx? (fun e => (e.born : Int) == (clock : Int)) = some es.size := by
        rw [Array.findIdx?_eq_some_iff_getElem]
        refine ⟨by simp, by simp, fun j hj => ?_⟩
        have hj' : j < es.size := hj
        rw [Array.getElem_push_lt hj']
        have := h3 es[j] (Array.getElem_mem_toList hj')
        simp
        omega
      refine ⟨setBlock W2 m (.map (es.push { key := enc2 a, val := enc2 b, born := clock }) (clock + 1)), ?_, ⟨⟨_, clock + 1, heap_setBlock_same hh _, ?_, ?_⟩, ?_, ?_⟩, Tn.of hh _⟩
      · have hmod : (es.push { key := enc2 a, val := enc2 (0, 0), born := clock }).modify es.size (fun e => { e with val := enc2 b }) = es.push { key := enc2 a, val := enc2 b, born := clock } := by
          apply Array.ext
          · simp
          · intro i hi1 hi2
            rw [Array.getElem_modify]
            by_cases e : es.size = i
            · subst e
              simp
            · rw [if_neg e]
              have hi : i < es.size := by simp at hi2; omega
              rw [Array.getElem_push_lt hi, Array.getElem_push_lt hi]
        simp [Instr.entryStore, MapKept.run_getObj_map hh, asInt, asIntOf, hfind, MapKept.run_setObj_map _ hh, Result.andThen, setBlock, hmod]
      · rw [Array.toList_push, List.map_append, List.map_append, h2]
        rfl
      · intro e he
        rw [Array.toList_push] at he
        rcases List.mem_append.1 he with he | he
        · have := h3 e he; omega
        · rw [List.mem_singleton.1 he]; exact Nat.lt_succ_self _
      · intro x hx
        rcases List.mem_append.1 hx with hx | hx
        · exact h.keys x hx
        · rw [List.mem_singleton.1 hx]; exact ha
      · rw [List.pairwise_append]
        exact ⟨h.apart, by simp, fun x hx y hy => by rw [List.mem_singleton.1 hy]; exact hasL_false.1 hn x hx⟩
  · exact absurd hn (by rw [(getL_mem h.apart (List.mem_of_getElem? f2)).2]; decide)
end
end Go.Proofs.Ytkncmbbkehnagaa.Cm

