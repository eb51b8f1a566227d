/-  Began as a tool's text over an altered copy of the translation (NOTES.md); below it my own lemmas on the slices that the laws make. -/
import Derived.Test.YtmoefknefopdlaaG0
import Derived.Test.YtmoefknefopdlaaBd
namespace Go.Proofs.Ytmoefknefopdlaa.PAll
open Go.RowKit Go.Proofs.YtmoefknefopdlaaW.PrintWords Go.Proofs.YtmoefknefopdlaaW.PrintLast Go.Proofs.YtmoefknefopdlaaW.PrintMore
attribute [local go_sem] max2_int min2_int max_two min_two max_three min_three max_four min_four   -- for this text's walks alone
set_option linter.unusedVariables false
set_option linter.unusedSimpArgs false

/-! #### struct type 24 -/
structure S24 where
  f0 : Int
  f1 : Int
  f2 : (List Int)
def z24 : S24 := ⟨(0 : Int), (0 : Int), ([] : List Int)⟩
def k24 : Kd S24 := Kd.iso (Kd.pair (Kd.int .i64) (Kd.pair (Kd.int .i64) (Kd.slice 5 (Kd.int .u8)))) (fun x : S24 => (x.f0, x.f1, x.f2))
theorem k24_open {w : World} {x : S24} {cs : List Value} (h : k24.K w x cs) : ∃ A2 c2, cs = [.int .i64 x.f0, .int .i64 x.f1, .slice A2 x.f2.length c2] ∧ x.f2.length ≤ c2 ∧ (Kd.int .u8).C w A2 x.f2.length x.f2 := by
  obtain ⟨_, _, rfl, rfl, ⟨_, _, rfl, rfl, ⟨A2, c2, rfl, l2, g2⟩⟩⟩ := h
  exact ⟨A2, c2, rfl, l2, g2⟩
theorem k24_openM {w : World} {base : Nat} {ok : Nat → Prop} {x : S24} {cs : List Value} (h : k24.M w base ok x cs) : ∃ v2, cs = [.int .i64 x.f0, .int .i64 x.f1, v2] ∧ (Kd.int .u8).R 5 w base ok v2 x.f2 := by
  obtain ⟨_, _, rfl, rfl, ⟨_, _, rfl, rfl, ⟨v2, rfl, g2⟩⟩⟩ := h
  exact ⟨v2, rfl, g2⟩
theorem k24_mk (w : World) (x : S24) {A2 : Option Addr} {c2 : Nat} (l2 : x.f2.length ≤ c2) (g2 : (Kd.int .u8).C w A2 x.f2.length x.f2) : k24.K w x [.int .i64 x.f0, .int .i64 x.f1, .slice A2 x.f2.length c2] := ⟨[.int .i64 x.f0], [.int .i64 x.f1, .slice A2 x.f2.length c2], rfl, rfl, ⟨[.int .i64 x.f1], [.slice A2 x.f2.length c2], rfl, rfl, ⟨A2, c2, rfl, l2, g2⟩⟩⟩
theorem k24_mkM (w : World) (base : Nat) (ok : Nat → Prop) (x : S24) {v2 : Value} (g2 : (Kd.int .u8).R 5 w base ok v2 x.f2) : k24.M w base ok x [.int .i64 x.f0, .int .i64 x.f1, v2] := ⟨[.int .i64 x.f0], [.int .i64 x.f1, v2], rfl, rfl, ⟨[.int .i64 x.f1], [v2], rfl, rfl, ⟨v2, rfl, g2⟩⟩⟩
def rd_T24 (xs : List S24) (i : Int) : S24 := xs.getD i.toNat z24
theorem at_T24 {w : World} {A : Option Addr} {n : Nat} {xs : List S24} (h : Kd.C k24 w A n xs) (i : Int) (h0 : 0 ≤ i) (h1 : i < n) : ∃ ad A2 c2, A = some ad ∧ w.cell? (ad.add (i.toNat * 3)) = some (.int .i64 (rd_T24 xs i).f0) ∧ w.cell? ⟨(ad.add (i.toNat * 3)).block, (ad.add (i.toNat * 3)).off + 1, none⟩ = some (.int .i64 (rd_T24 xs i).f1) ∧ w.cell? ⟨(ad.add (i.toNat * 3)).block, (ad.add (i.toNat * 3)).off + 2, none⟩ = some (.slice A2 (rd_T24 xs i).f2.length c2) ∧ (rd_T24 xs i).f2.length ≤ c2 ∧ (Kd.int .u8).C w A2 (rd_T24 xs i).f2.length (rd_T24 xs i).f2 := by
  obtain ⟨ad, c, e, _, hK, hc0⟩ := Kd.C_get h z24 i h0 h1
  have hc : ∀ j u, c[j]? = some u → w.cell? (ad.add (i.toNat * 3 + j)) = some u := hc0
  obtain ⟨A2, c2, rfl, l2, g2⟩ := k24_open hK
  exact ⟨ad, A2, c2, e, hc 0 _ rfl, by rw [← add_field _ _ 1 (by omega)]; exact hc 1 _ rfl, by rw [← add_field _ _ 2 (by omega)]; exact hc 2 _ rfl, l2, g2⟩

/-! ### potsherdlaw5_light: function 9 -/
def potsherdlaw5_light.l0 : Nat → List (S24) → Int → Int → Option (Bool)
  | 0, _, _, _ => none
  | k + 1, x5, x6, x7 => if x7 < x6 then (if 0 ≤ x7 then (if x7 < (x5.length : Int) then (if (((rd_T24 x5 x7).f2).length : Int) > 3000 then (some false) else (potsherdlaw5_light.l0 k x5 x6 (wrap64 (x7 + 1)))) else (none)) else (none)) else (some true)
def potsherdlaw5_light.f (k : Nat) (l0 : List (S24)) : Option (Bool) := potsherdlaw5_light.l0 k l0 (l0.length : Int) 0
theorem potsherdlaw5_light.mono_l : ∀ k, (∀ y0 y1 y2, LeO (potsherdlaw5_light.l0 k y0 y1 y2) (potsherdlaw5_light.l0 (k + 1) y0 y1 y2))
  | 0 => fun _ _ _ r h => by simp [potsherdlaw5_light.l0] at h
  | k + 1 => by
    have ih0 := potsherdlaw5_light.mono_l k
    · intro y0 y1 y2
      unfold potsherdlaw5_light.l0
      repeat' first
      | (with_reducible exact ih0 _ _ _)
      | (with_reducible exact LeO.refl _)
      | (with_reducible exact LeO.none _)
      | (with_reducible refine LeO.ite ?_ ?_)
      | (with_reducible refine LeO.bind ?_ (fun _ => ?_))
      | exact ih0 _ _ _
      | exact LeO.none _
      | refine LeO.ite ?_ ?_
      | refine LeO.bind ?_ (fun _ => ?_)
theorem potsherdlaw5_light.mono : ∀ a0 k, LeO (potsherdlaw5_light.f k a0) (potsherdlaw5_light.f (k + 1) a0) := by
  intro a0 k
  have ih0 := potsherdlaw5_light.mono_l k
  unfold potsherdlaw5_light.f
  repeat' first
      | (with_reducible exact ih0 _ _ _)
      | (with_reducible exact LeO.refl _)
      | (with_reducible exact LeO.none _)
      | (with_reducible refine LeO.ite ?_ ?_)
      | (with_reducible refine LeO.bind ?_ (fun _ => ?_))
      | exact ih0 _ _ _
      | exact LeO.none _
      | refine LeO.ite ?_ ?_
      | refine LeO.bind ?_ (fun _ => ?_)
set_option maxHeartbeats 8000000 in
set_option maxRecDepth 100000 in
theorem potsherdlaw5_light.calls (k : Nat) (A0 : Option Addr) (c0 : Nat) (l0 : List (S24)) (r : Bool) (w : World) (hr0 : Kd.C k24 w A0 l0.length l0) (hc0 : l0.length ≤ c0) (h : potsherdlaw5_light.f k l0 = some r) :
    Calls Try.prog 9 #[.slice A0 l0.length c0] w fun e w' => e = .returned (.bool r) ∧ Below w.heap.size w w' := by
  have hu24 := Try.underlying24
  have HR0 := Aside0.mk hr0
  have HC0 := Aside0.mk hc0
  clear hr0 hc0
  have HB := Aside0.mk (Below.refl w.heap.size w)
  have H : (potsherdlaw5_light.l0 k l0 (l0.length : Int) 0) = some r := h
  clear h
  have H' := Aside0.mk H
  clear H
  go_enter Try.func9, Try.ntmps9
  go_wp2
  go_loopg [7] k (fun kq v7 w' => ∃ (x7_1 : Int), v7 = .int .i64 x7_1 ∧ Aside0 (potsherdlaw5_light.l0 kq l0 (l0.length : Int) x7_1 = some r) ∧ Aside0 (kq ≤ k) ∧ Aside0 (Below w.heap.size w w'))
  case atStart => exact ⟨(0), (by first | rfl | (simp; done) | (simp [*]; done)), H', ⟨Nat.le_refl _⟩, ⟨by repeat (first | (with_reducible first | exact HB.out | apply below_alloc | apply pw_below_drewN | apply below_drew1) | exact HB.out)⟩⟩
  case round =>
    clear H'
    obtain ⟨x7_1, rfl, HA, HK1, HB⟩ := hrel
    cases gk with
    | zero => exact absurd HA.out (by simp [potsherdlaw5_light.l0])
    | succ k1 =>
      have H := HA.out
      clear HA
      simp only [potsherdlaw5_light.l0] at H
      by_cases c2 : x7_1 < (l0.length : Int)
      · rw [if_pos c2] at H
        have c2b0 : decide (x7_1 < (l0.length : Int)) = true := decide_eq_true c2
        clear c2
        by_cases c3 : 0 ≤ x7_1
        · rw [if_pos c3] at H
          have c3b0 : decide (0 ≤ x7_1) = true := decide_eq_true c3
          clear c3
          by_cases c4 : x7_1 < (l0.length : Int)
          · rw [if_pos c4] at H
            have c4b0 : decide (x7_1 < (l0.length : Int)) = true := decide_eq_true c4
            clear c4
            by_cases c5 : (((rd_T24 l0 x7_1).f2).length : Int) > 3000
            · rw [if_pos c5] at H
              have c5b0 : decide (3000 < (((rd_T24 l0 x7_1).f2).length : Int)) = true := decide_eq_true c5
              have c5b1 : decide (3000 < ((rd_T24 l0 x7_1).f2).length) = true := decide_eq_true (by omega)
              clear c5
              obtain rfl := Option.some.inj H
              have p101 : 0 ≤ (x7_1 : Int) := of_decide_eq_true (by first | (with_reducible assumption) | assumption)
              have q101 : x7_1 < (l0.length : Int) := of_decide_eq_true (by first | (with_reducible assumption) | assumption)
              obtain ⟨ad101, A101_2, c101_2, e101, hx101_0, hx101_1, hx101_2, hl101_2, hi101_2⟩ := at_T24 HR0.out x7_1 p101 q101
              cases e101
              replace hx101_0 := (HB.out.cell (World.block_lt_of_cell? w _ hx101_0)).trans hx101_0
              replace hx101_1 := (HB.out.cell (World.block_lt_of_cell? w _ hx101_1)).trans hx101_1
              replace hx101_2 := (HB.out.cell (World.block_lt_of_cell? w _ hx101_2)).trans hx101_2
              have HR101_2 := Aside0.mk hi101_2
              have HC101_2 := Aside0.mk hl101_2
              clear hi101_2 hl101_2
              replace p101 := eq_true p101
              replace q101 := eq_true q101
              go_wp2_with (first | ((with_reducible refine gate_dst (N := 4) rfl ?_); refine box_event ?hg (N := 4) ?hd (cs := #[.int .i64 0, .int .i64 0, .slice none 0 0]) (t := 24) ?hr ?_; (case hd => rfl); (case hg => rfl); (case hr => first | (go_simp; done) | (go_simp; rfl)); intro gb102 hg w6 hbox hb; have n0_ := Aside0.mk (below_step (by repeat (first | (with_reducible first | exact HB.out | apply below_alloc | apply pw_below_drewN | apply below_drew1) | exact HB.out)) hb); have n1_ := Aside0.mk (hbox); have n2_ := Aside0.mk ((by rw [hg]; exact (below_size (by repeat (first | (with_reducible first | exact HB.out | apply below_alloc | apply pw_below_drewN | apply below_drew1) | exact HB.out))) : w.heap.size ≤ gb102)); have n3_ := Aside0.mk ((by rw [hg]; exact (below_size (by repeat (first | (with_reducible first | exact HB.out | apply below_alloc | apply pw_below_drewN | apply below_drew1) | exact HB.out))) : w.heap.size ≤ gb102)); clear HB; have HB := n0_; have BK102 := n1_; have GW102 := n2_; have GE102 := n3_; clear n0_ n1_ n2_ n3_; clear hb hbox hg; have hcz7_0 : w6.cell? ⟨gb102, 0, none⟩ = some (.int .i64 0) := (blk_cell BK102.out 0).trans rfl; have hcz7_1 : w6.cell? ⟨gb102, 1, none⟩ = some (.int .i64 0) := (blk_cell BK102.out 1).trans rfl; have hcz7_2 : w6.cell? ⟨gb102, 2, none⟩ = some (.slice none 0 0) := (blk_cell BK102.out 2).trans rfl; have hfz7_0 := blk_frozen BK102.out 0; have hfz7_1 := blk_frozen BK102.out 1; have hfz7_2 := blk_frozen BK102.out 2))
              go_ret
              exact ⟨by first | rfl | (simp [errW_none, errW_some] <;> rfl) | (simp [*, errW_none, errW_some] <;> rfl), by repeat (first | (with_reducible first | exact HB.out | apply below_alloc | apply pw_below_drewN | apply below_drew1 | refine below_set ?_ GE102.out) | exact HB.out)⟩
            · rw [if_neg c5] at H
              have c5b0 : decide (3000 < (((rd_T24 l0 x7_1).f2).length : Int)) = false := decide_eq_false c5
              have c5b1 : decide (3000 < ((rd_T24 l0 x7_1).f2).length) = false := decide_eq_false (by omega)
              clear c5
              have H' := Aside0.mk H
              clear H
              have p101 : 0 ≤ (x7_1 : Int) := of_decide_eq_true (by first | (with_reducible assumption) | assumption)
              have q101 : x7_1 < (l0.length : Int) := of_decide_eq_true (by first | (with_reducible assumption) | assumption)
              obtain ⟨ad101, A101_2, c101_2, e101, hx101_0, hx101_1, hx101_2, hl101_2, hi101_2⟩ := at_T24 HR0.out x7_1 p101 q101
              cases e101
              replace hx101_0 := (HB.out.cell (World.block_lt_of_cell? w _ hx101_0)).trans hx101_0
              replace hx101_1 := (HB.out.cell (World.block_lt_of_cell? w _ hx101_1)).trans hx101_1
              replace hx101_2 := (HB.out.cell (World.block_lt_of_cell? w _ hx101_2)).trans hx101_2
              have HR101_2 := Aside0.mk hi101_2
              have HC101_2 := Aside0.mk hl101_2
              clear hi101_2 hl101_2
              replace p101 := eq_true p101
              replace q101 := eq_true q101
              go_wp2_with (first | ((with_reducible refine gate_dst (N := 4) rfl ?_); refine box_event ?hg (N := 4) ?hd (cs := #[.int .i64 0, .int .i64 0, .slice none 0 0]) (t := 24) ?hr ?_; (case hd => rfl); (case hg => rfl); (case hr => first | (go_simp; done) | (go_simp; rfl)); intro gb102 hg w8 hbox hb; have n0_ := Aside0.mk (below_step (by repeat (first | (with_reducible first | exact HB.out | apply below_alloc | apply pw_below_drewN | apply below_drew1) | exact HB.out)) hb); have n1_ := Aside0.mk (hbox); have n2_ := Aside0.mk ((by rw [hg]; exact (below_size (by repeat (first | (with_reducible first | exact HB.out | apply below_alloc | apply pw_below_drewN | apply below_drew1) | exact HB.out))) : w.heap.size ≤ gb102)); have n3_ := Aside0.mk ((by rw [hg]; exact (below_size (by repeat (first | (with_reducible first | exact HB.out | apply below_alloc | apply pw_below_drewN | apply below_drew1) | exact HB.out))) : w.heap.size ≤ gb102)); clear HB; have HB := n0_; have BK102 := n1_; have GW102 := n2_; have GE102 := n3_; clear n0_ n1_ n2_ n3_; clear hb hbox hg; have hcz9_0 : w8.cell? ⟨gb102, 0, none⟩ = some (.int .i64 0) := (blk_cell BK102.out 0).trans rfl; have hcz9_1 : w8.cell? ⟨gb102, 1, none⟩ = some (.int .i64 0) := (blk_cell BK102.out 1).trans rfl; have hcz9_2 : w8.cell? ⟨gb102, 2, none⟩ = some (.slice none 0 0) := (blk_cell BK102.out 2).trans rfl; have hfz9_0 := blk_frozen BK102.out 0; have hfz9_1 := blk_frozen BK102.out 1; have hfz9_2 := blk_frozen BK102.out 2))
              go_roundg k1
              case measure => have := HK1.out; omega
              case rel => exact ⟨(wrap64 (x7_1 + 1)), (by first | rfl | (simp; done) | (simp [*]; done)), H', ⟨by have := HK1.out; omega⟩, ⟨by repeat (first | (with_reducible first | exact HB.out | apply below_alloc | apply pw_below_drewN | apply below_drew1 | refine below_set ?_ GE102.out) | exact HB.out)⟩⟩
          · rw [if_neg c4] at H
            exact absurd H (by simp)
        · rw [if_neg c3] at H
          exact absurd H (by simp)
      · rw [if_neg c2] at H
        have c2b0 : decide (x7_1 < (l0.length : Int)) = false := decide_eq_false c2
        clear c2
        obtain rfl := Option.some.inj H
        go_wp2
        go_ret
        exact ⟨by first | rfl | (simp [errW_none, errW_some] <;> rfl) | (simp [*, errW_none, errW_some] <;> rfl), by repeat (first | (with_reducible first | exact HB.out | apply below_alloc | apply pw_below_drewN | apply below_drew1) | exact HB.out)⟩

end Go.Proofs.Ytmoefknefopdlaa.PAll
namespace Go.Proofs.Ytmoefknefopdlaa.Lt
open Go.RowKit Go.Proofs.YtmoefknefopdlaaW.PrintWords Go.Proofs.YtmoefknefopdlaaW.PrintLast Go.Proofs.YtmoefknefopdlaaW.PrintMore Go.Proofs.Ytmoefknefopdlaa.PAll
theorem new_at (w : World) (cs : Array Value) (t : TypeId) (j : Nat) (v : Value) (h : cs[j]? = some v) : (w.alloc (.cells cs t)).cell? ((⟨w.heap.size, 0, none⟩ : Addr).add j) = some v := Cc.new_cell w cs t j v h
theorem one_C {w : World} {p q : Int} {A : Option Addr} {c : Nat} {d : List Int} (hz : d.length ≤ c) (h : Kd.C (Kd.int .u8) w A d.length d) :
    Kd.C k24 (w.alloc (.cells #[.int .i64 p, .int .i64 q, .slice A d.length c] 24)) (some ⟨w.heap.size, 0, none⟩) 1 [⟨p, q, d⟩] := by
  refine ⟨rfl, by omega, fun _ => ⟨_, rfl, fun j x hx => ?_⟩⟩
  match j, hx with
  | 0, hx =>
    obtain rfl : (⟨p, q, d⟩ : S24) = x := by simpa using hx
    refine ⟨_, rfl, k24_mk _ ⟨p, q, d⟩ hz (Kd.C_alloc h _), fun i u hu => ?_⟩
    have e : 0 * k24.sz + i = i := by omega
    rw [e]
    refine new_at w _ 24 i u ?_
    simpa using hu
  | j + 1, hx => simp at hx
theorem two_C {w : World} {p q p' q' : Int} {A A' : Option Addr} {c c' : Nat} {d d' : List Int} (hz : d.length ≤ c) (h : Kd.C (Kd.int .u8) w A d.length d) (hz' : d'.length ≤ c') (h' : Kd.C (Kd.int .u8) w A' d'.length d') :
    Kd.C k24 (w.alloc (.cells #[.int .i64 p, .int .i64 q, .slice A d.length c, .int .i64 p', .int .i64 q', .slice A' d'.length c'] 24)) (some ⟨w.heap.size, 0, none⟩) 2 [⟨p, q, d⟩, ⟨p', q', d'⟩] := by
  refine ⟨rfl, by omega, fun _ => ⟨_, rfl, fun j x hx => ?_⟩⟩
  match j, hx with
  | 0, hx =>
    obtain rfl : (⟨p, q, d⟩ : S24) = x := by simpa using hx
    refine ⟨_, rfl, k24_mk _ ⟨p, q, d⟩ hz (Kd.C_alloc h _), fun i u hu => ?_⟩
    have e : 0 * k24.sz + i = i := by omega
    rw [e]
    refine new_at w _ 24 i u ?_
    match i, hu with
    | 0, hu => simpa using hu
    | 1, hu => simpa using hu
    | 2, hu => simpa using hu
    | i + 3, hu => simp at hu
  | 1, hx =>
    obtain rfl : (⟨p', q', d'⟩ : S24) = x := by simpa using hx
    refine ⟨_, rfl, k24_mk _ ⟨p', q', d'⟩ hz' (Kd.C_alloc h' _), fun i u hu => ?_⟩
    have e : 1 * k24.sz + i = 3 + i := by show 1 * 3 + i = 3 + i; omega
    rw [e]
    refine new_at w _ 24 (3 + i) u ?_
    match i, hu with
    | 0, hu => simpa using hu
    | 1, hu => simpa using hu
    | 2, hu => simpa using hu
    | i + 3, hu => simp at hu
  | j + 2, hx => simp at hx
theorem light_end (k : Nat) (xs : List S24) (n : Int) : potsherdlaw5_light.l0 (k + 1) xs n n = some true := by
  unfold potsherdlaw5_light.l0
  rw [if_neg (by omega)]
theorem light_step (k : Nat) (xs : List S24) (n i : Int) (x : S24) (h0 : 0 ≤ i) (h1 : i < n) (hn : n = xs.length) (hx : rd_T24 xs i = x) (hi : i < 100) : potsherdlaw5_light.l0 (k + 1) xs n i = if x.f2.length ≤ 3000 then potsherdlaw5_light.l0 k xs n (i + 1) else some false := by
  have hw : wrap64 (i + 1) = i + 1 := by unfold wrap64; omega
  conv => lhs; unfold potsherdlaw5_light.l0
  rw [if_pos h1, if_pos h0, if_pos (by omega), hx, hw]
  by_cases h : x.f2.length ≤ 3000
  · rw [if_neg (by omega), if_pos h]
  · rw [if_pos (by omega), if_neg h]
theorem light1 (p q : Int) (d : List Int) : potsherdlaw5_light.f 3 [⟨p, q, d⟩] = some (decide (d.length ≤ 3000)) := by
  unfold potsherdlaw5_light.f
  rw [light_step 2 [⟨p, q, d⟩] _ 0 ⟨p, q, d⟩ (by decide) (by simp) rfl rfl (by decide)]
  by_cases h : d.length ≤ 3000
  · rw [if_pos h, decide_eq_true h]
    exact light_end 1 _ _
  · rw [if_neg h, decide_eq_false h]
theorem light2 (p q p' q' : Int) (d d' : List Int) : potsherdlaw5_light.f 3 [⟨p, q, d⟩, ⟨p', q', d'⟩] = some (decide (d.length ≤ 3000 ∧ d'.length ≤ 3000)) := by
  unfold potsherdlaw5_light.f
  rw [light_step 2 _ _ 0 ⟨p, q, d⟩ (by decide) (by simp) rfl rfl (by decide)]
  by_cases h : d.length ≤ 3000
  · rw [if_pos h, light_step 1 _ _ (0 + 1) ⟨p', q', d'⟩ (by decide) (by simp) rfl rfl (by decide)]
    by_cases h' : d'.length ≤ 3000
    · rw [if_pos h', decide_eq_true ⟨h, h'⟩]
      exact light_end 0 _ _
    · rw [if_neg h', decide_eq_false (fun k => h' k.2)]
  · rw [if_neg h, decide_eq_false (fun k => h k.1)]
end Go.Proofs.Ytmoefknefopdlaa.Lt
