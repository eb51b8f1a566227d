import Derived.Test.YtmoefknefopdlaaG0
import Derived.Lib.AppendZerosOnto
import Derived.Lib.SliceRun
import Derived.Lib.Walk
import Derived.WalkKit
import Derived.KernelRfl
set_option linter.unusedVariables false
set_option linter.unusedSimpArgs false
/-! slices.Grow of nil; slices.Concat. -/
namespace Go.Proofs.Ytmoefknefopdlaa.Cc
open Go.RowKit Go.Proofs.YtmoefknefopdlaaW.PrintWords Go.Proofs.YtmoefknefopdlaaW.PrintLast Go.Proofs.YtmoefknefopdlaaW.PrintMore Go.Proofs.Ytmoefknefopdlaa.PAll
attribute [local go_sem] max2_int min2_int max_two min_two max_three min_three max_four min_four

set_option maxHeartbeats 2000000 in
set_option maxRecDepth 100000 in
theorem grow0 (w : World) : Calls Try.prog 41 #[.slice none 0 0, .int .i64 0] w fun e w' => e = .returned (.slice none 0 0) ∧ w' = w := by
  go_enter Try.func41, Try.ntmps41
  go_wp2
  go_ret
  exact ⟨rfl, rfl⟩

set_option maxHeartbeats 4000000 in
set_option maxRecDepth 100000 in
theorem grow1 (w : World) (n : Nat) (hn : 0 < n) (hl : n ≤ 140737488355328) : Calls Try.prog 41 #[.slice none 0 0, .int .i64 n] w fun e w' => ∃ v : Value, e = .returned v ∧ Kd.R (Kd.int .u8) 5 w' w.heap.size (fun _ => True) v [] ∧ Below w.heap.size w w' := by
  obtain ⟨i0, hi0, hz0, hz1, hz2⟩ := info_parts info5
  have h1 : ¬ ((n : Int) < 0) := by omega
  have h3 : wrap64 ((n : Int) - 0) = (n : Int) := by unfold wrap64; omega
  have h4 : (n : Int) > 0 := by omega
  have hold : (Builtin.firstCells i0.size 0 (.slice none 0 0)).run Try.prog w.drew = .ok #[] w.drew := run_firstCells_none w.drew i0.size 0 0 0
  have hrz : ∀ ty, (Builtin.append_ #[22, 3] ty #[.slice none 0 0, .int .i64 (n : Int)]).run Try.prog w =
      .ok (.slice (some ⟨w.heap.size, 0, none⟩) n (grownCap w n 0 5)) (w.drew.alloc (.cells (#[] ++ Builtin.zeroCells (Value.int .u8 0).cells n ++ Builtin.zeroCells (Value.int .u8 0).cells (grownCap w n 0 5 - n)) 5)) := fun ty => by
    have h := Lib.run_append_grow_zeros w 22 3 ty 5 i0 (.int .u8 0) .i64 .i64 Try.underlying22 Try.underlying3 hi0 hz0 none 0 0 [] hold n (by omega) (by omega) (by omega) (by omega)
      (by rw [hz2]; omega)
      (growslice_fits (by omega) (by rw [hz2]; omega))
    simpa using h
  have hG := grownCap_ge w n 0 5
  obtain ⟨G, hG0⟩ : ∃ G, G = grownCap w n 0 5 := ⟨_, rfl⟩
  have hG2 : G ≤ maxLen := by
    have := grownCap_le_maxLen w n 0 5 (by unfold maxLen; omega)
    rw [← hG0] at this
    exact this
  rw [← hG0] at hrz hG
  clear hold hG0 hi0 hz0 hz1 hz2
  go_enter Try.func41, Try.ntmps41
  go_wp2_with (at_builtin; refine Lib.wpList_append_run _ rfl _ _ _ _ rfl _ _ rfl rfl _ _ (hrz _) ?_)
  go_ret
  refine ⟨_, rfl, Kd.R_of_own (xs := []) ⟨by simp [encs], .inr ⟨w.heap.size, G, _, rfl, Nat.le_refl _, blk_new w.drew _, Nat.zero_le _, hG2, ?_, by simp [encs]⟩⟩ (fun _ _ => trivial), below_alloc (below_drew (Below.refl _ _)) _⟩
  simp [Builtin.zeroCells, Value.cells]
  omega

def bound : Nat := 1000000
def lens : List (List Int) → Nat
  | [] => 0
  | x :: l => x.length + lens l
theorem lens_append : ∀ a b : List (List Int), lens (a ++ b) = lens a + lens b
  | [], b => by simp [lens]
  | x :: a, b => by simp only [List.cons_append, lens, lens_append a b]; omega
theorem lens_flat : ∀ a : List (List Int), a.flatten.length = lens a
  | [] => rfl
  | x :: a => by simp [lens, lens_flat a]
theorem lens_take (l : List (List Int)) (j : Nat) (h : j < l.length) : lens (l.take (j + 1)) = lens (l.take j) + (l.getD j []).length := by
  rw [List.take_succ_eq_append_getElem h, lens_append, List.getD_eq_getElem?_getD, List.getElem?_eq_getElem h]
  simp [lens]
theorem flat_take (l : List (List Int)) (j : Nat) (h : j < l.length) : (l.take (j + 1)).flatten = (l.take j).flatten ++ l.getD j [] := by
  rw [List.take_succ_eq_append_getElem h, List.getD_eq_getElem?_getD, List.getElem?_eq_getElem h, List.flatten_append]
  simp
theorem lens_take_le (l : List (List Int)) (j : Nat) : lens (l.take j) ≤ lens l := by
  have := lens_append (l.take j) (l.drop j)
  rw [List.take_append_drop] at this
  omega

set_option maxHeartbeats 4000000 in
set_option maxRecDepth 100000 in
theorem concat (A0 : Option Addr) (c0 : Nat) (l0 : List (List Int)) (w : World) (hr0 : Kd.C (Kd.slice 5 (Kd.int .u8)) w A0 l0.length l0) (hc0 : l0.length ≤ c0) (hl : l0.length ≤ 1000000) (hs : lens l0 ≤ 1000000) :
    Calls Try.prog 40 #[.slice A0 l0.length c0] w fun e w' => ∃ v0_ : Value, e = .returned (v0_) ∧ Kd.R (Kd.int .u8) 5 w' w.heap.size (fun _ => True) v0_ l0.flatten ∧ Below w.heap.size w w' := by
  have HR0 := Aside0.mk hr0
  have HC0 := Aside0.mk hc0
  have HS := Aside0.mk hs
  have HL := Aside0.mk hl
  clear hr0 hc0 hs hl
  go_enter Try.func40, Try.ntmps40
  go_wp2
  go_loopw [3, 11] (fun v3 v11 wr => ∃ j : Nat, j ≤ l0.length ∧ v11 = .int .i64 (j : Int) ∧ v3 = .int .i64 ((lens (l0.take j) : Nat) : Int) ∧ Aside0 (Below w.heap.size w wr)) (fun _ v11 _ => l0.length - (intOf v11).toNat)
  case atStart => exact ⟨0, Nat.zero_le _, rfl, by simp [lens], ⟨Below.refl _ _⟩⟩
  case round =>
    obtain ⟨j, hj, rfl, rfl, HB⟩ := hrel
    have hlim := HL.out
    by_cases hlt : j < l0.length
    · obtain ⟨ad, A1, c1, e1, hx, hlc, hi⟩ := at_L1 HR0.out (j : Int) (by omega) (by omega)
      cases e1
      have hx2 := pw_cell_below HB.out hx
      have h1 := lens_take l0 j hlt
      have h2 := lens_take_le l0 (j + 1)
      have h3 := HS.out
      have h4 : (rd_L1 l0 (j : Int)).length = (l0.getD j []).length := by simp [rd_L1]
      rw [h4] at hx2
      have hw : wrap64 (((lens (l0.take j) : Nat) : Int) + ((l0.getD j []).length : Int)) = ((lens (l0.take (j + 1)) : Nat) : Int) := by unfold wrap64; omega
      have hn : ¬ (((lens (l0.take (j + 1)) : Nat) : Int) < 0) := by omega
      have hw2 : wrap64 ((j : Int) + 1) = ((j + 1 : Nat) : Int) := by unfold wrap64; omega
      clear hx h1 h2 h3 h4 hi hlc
      simp only [Int.toNat_natCast] at hx2
      obtain ⟨m, hm⟩ : ∃ m, (l0.getD j []).length = m := ⟨_, rfl⟩
      rw [hm] at hx2 hw
      clear hm
      go_wp2
      go_roundw
      case measure => simp only [intOf]; omega
      case rel => exact ⟨j + 1, by omega, by first | rfl | rw [hw2], by first | rfl | rw [hw], HB⟩
    · have he : j = l0.length := by omega
      subst he
      have hn : ¬ (((l0.length : Nat) : Int) < (l0.length : Int)) := by omega
      rw [List.take_length]
      obtain ⟨s, hse⟩ : ∃ s, lens l0 = s := ⟨_, rfl⟩
      rw [hse] at HS ⊢
      have grow : ∀ W : World, Calls Try.prog 41 #[.slice none 0 0, .int .i64 (s : Int)] W fun e w' => ∃ v : Value, e = .returned v ∧ Kd.R (Kd.int .u8) 5 w' W.heap.size (fun _ => True) v [] ∧ Below W.heap.size W w' := fun W => by
        rcases Nat.eq_zero_or_pos s with h | h
        · subst h
          refine (grow0 W).mono ?_
          rintro e w' ⟨rfl, rfl⟩
          exact ⟨_, rfl, Kd.R_nil _ _ _ _ _, Below.refl _ _⟩
        · exact grow1 W s h (by have := HS.out; omega)
      go_wp2_with (go_at_call 41; refine (grow _).mono ?_; rintro e w2 ⟨v, rfl, hR, hb⟩; have HR := Aside0.mk (Kd.R_lower hR (below_size HB.out)); have HB2 := Aside0.mk (below_step HB.out hb); clear hR hb)
      clear HB
      go_loopw [6, 27] (fun v6 v27 wr => ∃ j : Nat, j ≤ l0.length ∧ v27 = .int .i64 (j : Int) ∧ Aside0 (Kd.R (Kd.int .u8) 5 wr w.heap.size (fun _ => True) v6 (l0.take j).flatten) ∧ Aside0 (Below w.heap.size w wr)) (fun _ v27 _ => l0.length - (intOf v27).toNat)
      case atStart => exact ⟨0, Nat.zero_le _, rfl, ⟨by simpa using HR.out⟩, HB2⟩
      case round =>
        clear HB2 HR
        obtain ⟨j, hj, rfl, HR, HB⟩ := hrel
        by_cases hlt : j < l0.length
        · obtain ⟨ad, A1, c1, e1, hx, hlc, hi⟩ := at_L1 HR0.out (j : Int) (by omega) (by omega)
          cases e1
          have hx2 := pw_cell_below HB.out hx
          have HI := Aside0.mk (Kd.C_below hi HB.out)
          have h4 : rd_L1 l0 (j : Int) = l0.getD j [] := by simp [rd_L1]
          rw [h4] at hx2 HI
          have HF := Aside0.mk (flat_take l0 j hlt)
          have HLim := Aside0.mk (show (l0.take j).flatten.length + (l0.getD j []).length ≤ 1000000 by
            have h1 := lens_take l0 j hlt
            have h2 := lens_take_le l0 (j + 1)
            have h3 := HS.out
            rw [lens_flat]
            omega)
          have hw2 : wrap64 ((j : Int) + 1) = ((j + 1 : Nat) : Int) := by unfold wrap64; omega
          clear hx h4 hi hlc
          simp only [Int.toNat_natCast] at hx2
          obtain ⟨m, hm⟩ : ∃ m, l0.getD j [] = m := ⟨_, rfl⟩
          rw [hm] at hx2 HI HF HLim
          clear hm
          go_wp2_with ((with_reducible refine gate_builtin (b := .append) (xs := #[.tmp 31, .tmp 32]) rfl ?_); at_builtin; refine Kd.R_append_rows (Kd.int .u8) (w0 := w) w.heap.size rfl (.tmp 31) (.tmp 32) 22 5 (.int .u8 0) 1 rfl Try.underlying22 info5 rfl (by decide) (by omega) u6 (l0.take j).flatten m _ _ _ (fun _ => True) (fun _ => False) rfl rfl HR.out HI.out (fun _ _ h => h) (fun _ h => h.elim) (fun _ _ => trivial) HB.out (below_size HB.out) ?aL ?_; (case aL => have := HLim.out; omega); intro v107 w6 ho hb hg hat; have HO := Aside0.mk ho; have HB3 := Aside0.mk hb; clear ho hb hg hat)
          go_roundw
          case measure => simp only [intOf]; omega
          case rel => exact ⟨j + 1, by omega, rfl, ⟨by rw [HF.out]; exact HO.out⟩, HB3⟩
        · have he : j = l0.length := by omega
          subst he
          rw [List.take_length] at HR
          go_wp2
          go_ret
          exact ⟨_, rfl, HR.out, HB.out⟩
end Go.Proofs.Ytmoefknefopdlaa.Cc
namespace Go.Proofs.Ytmoefknefopdlaa.PAll
open Go.RowKit Go.Proofs.YtmoefknefopdlaaW.PrintWords Go.Proofs.YtmoefknefopdlaaW.PrintLast Go.Proofs.YtmoefknefopdlaaW.PrintMore
def slices_Concat_byte_byte.f (k : Nat) (l0 : List (List Int)) : Option (List Int) := if l0.length ≤ 1000000 ∧ Cc.lens l0 ≤ 1000000 then some l0.flatten else none
theorem slices_Concat_byte_byte.mono : ∀ a0 k, LeO (slices_Concat_byte_byte.f k a0) (slices_Concat_byte_byte.f (k + 1) a0) := fun _ _ => LeO.refl _
theorem slices_Concat_byte_byte.calls (k : Nat) (A0 : Option Addr) (c0 : Nat) (l0 : List (List Int)) (r : List Int) (w : World) (hr0 : Kd.C (Kd.slice 5 (Kd.int .u8)) w A0 l0.length l0) (hc0 : l0.length ≤ c0) (h : slices_Concat_byte_byte.f k l0 = some r) :
    Calls Try.prog 40 #[.slice A0 l0.length c0] w fun e w' => ∃ v0_ : Value, e = .returned (v0_) ∧ Kd.R (Kd.int .u8) 5 w' w.heap.size (fun _ => True) v0_ r ∧ Below w.heap.size w w' := by
  unfold slices_Concat_byte_byte.f at h
  split at h
  · rename_i hh
    obtain rfl := Option.some.inj h
    exact Cc.concat A0 c0 l0 w hr0 hc0 hh.1 hh.2
  · cases h
end Go.Proofs.Ytmoefknefopdlaa.PAll
namespace Go.Proofs.Ytmoefknefopdlaa.Cc
open Go.RowKit Go.Proofs.YtmoefknefopdlaaW.PrintWords Go.Proofs.YtmoefknefopdlaaW.PrintLast Go.Proofs.YtmoefknefopdlaaW.PrintMore Go.Proofs.Ytmoefknefopdlaa.PAll
theorem new_cell (w : World) (cs : Array Value) (t : TypeId) (j : Nat) (v : Value) (h : cs[j]? = some v) (fr : Nat × Nat := (0, 0)) : (w.alloc (.cells cs t fr)).cell? ((⟨w.heap.size, 0, none⟩ : Addr).add j) = some v := by
  have h1 := blk_new w (.cells cs t fr)
  by_cases hj : j = 0
  · subst hj
    simp only [World.cell?, Addr.add, ↓reduceIte, h1, h, Option.isSome_none, Bool.false_eq_true]
  · simp only [World.cell?, Addr.add, ↓reduceIte, hj, Nat.zero_add, h1, h, Option.isSome_none, Bool.false_eq_true]
theorem pair_C {w : World} {A0 A1 : Option Addr} {c0 c1 : Nat} {l t : List Int} (h0 : l.length ≤ c0) (k0 : Kd.C (Kd.int .u8) w A0 l.length l) (h1 : t.length ≤ c1) (k1 : Kd.C (Kd.int .u8) w A1 t.length t) :
    Kd.C (Kd.slice 5 (Kd.int .u8)) (w.alloc (.cells #[.slice A0 l.length c0, .slice A1 t.length c1] 22)) (some ⟨w.heap.size, 0, none⟩) 2 [l, t] := by
  refine ⟨rfl, by omega, fun _ => ⟨_, rfl, fun j p hp => ?_⟩⟩
  match j, hp with
  | 0, hp =>
    obtain rfl : l = p := by simpa using hp
    refine ⟨[.slice A0 l.length c0], rfl, ⟨A0, c0, rfl, h0, Kd.C_alloc k0 _⟩, fun i u hu => ?_⟩
    match i, hu with
    | 0, hu =>
      obtain rfl : _ = u := by simpa using hu
      exact new_cell w _ 22 0 _ rfl
    | i + 1, hu => simp at hu
  | 1, hp =>
    obtain rfl : t = p := by simpa using hp
    refine ⟨[.slice A1 t.length c1], rfl, ⟨A1, c1, rfl, h1, Kd.C_alloc k1 _⟩, fun i u hu => ?_⟩
    match i, hu with
    | 0, hu =>
      obtain rfl : _ = u := by simpa using hu
      exact new_cell w _ 22 1 _ rfl
    | i + 1, hu => simp at hu
  | j + 2, hp => simp at hp
end Go.Proofs.Ytmoefknefopdlaa.Cc
