/-
  turn.Spots: its function value gives all spots, numbered, block by block.
-/
import Derived.Test.YtflaaphlghkpnaaIter
import Derived.Test.YtflaaphlghkpnaaProg
import Derived.Lib.Hide
import Derived.Test.YtflaaphlghkpnaaWMore
import Derived.Stop.RegionWithIn
set_option linter.unusedVariables false
set_option linter.unusedSimpArgs false
namespace Go.Proofs.Ytflaaphlghkpnaa.Iter
open Go.RowKit Go.Shelf Go.Proofs.YtflaaphlghkpnaaW.PrintWords Go.Proofs.YtflaaphlghkpnaaW.PrintLast Go.Proofs.YtflaaphlghkpnaaW.PrintMore
attribute [local go_sem] Oper.semAt_some

abbrev Spot3 := Int × Int × Int
def encSpot (x : Spot3) : Array Value := #[.int .i64 x.1, .agg #[.int .i64 x.2.1, .int .i64 x.2.2]]
/-- The first k spots, p pages a block. -/
def spotsTo (p : Int) (k : Nat) : List Spot3 := (List.range k).map fun i : Nat => ((i : Int), (i : Int) / p, (i : Int) % p)
def spotsList (b p : Int) : List Spot3 := if b < 1 ∨ p < 1 ∨ b > 64 ∨ p > 32 then [] else spotsTo p (b * p).toNat
theorem spotsTo_length (p : Int) (k : Nat) : (spotsTo p k).length = k := by simp [spotsTo]
theorem spotsTo_snoc (p : Int) (k : Nat) : spotsTo p (k + 1) = spotsTo p k ++ [((k : Int), (k : Int) / p, (k : Int) % p)] := by simp [spotsTo, List.range_succ]
theorem spotsTo_prefix (p : Int) {k m : Nat} (h : k ≤ m) : spotsTo p k <+: spotsTo p m := by
  obtain ⟨d, rfl⟩ := Nat.exists_eq_add_of_le h
  induction d with
  | zero => exact List.prefix_rfl
  | succ d ih => exact (ih (by omega)).trans (by rw [show k + (d + 1) = (k + d) + 1 by omega, spotsTo_snoc]; exact List.prefix_append _ _)

set_option maxHeartbeats 4000000 in
set_option maxRecDepth 100000 in
theorem spots1_out (m : Nat) (l Bb Bp : Nat) (b p : Int) (h : b < 1 ∨ p < 1 ∨ b > 64 ∨ p > 32) (W : World) (hBb : W.cell? ⟨Bb, 0, none⟩ = some (.int .i64 b)) (hBp : W.cell? ⟨Bp, 0, none⟩ = some (.int .i64 p)) :
    CallsIn Fence.wide m Try.prog 28 #[.func (.yield l) #[] #[], .pointer (some ⟨Bb, 0, none⟩), .pointer (some ⟨Bp, 0, none⟩)] W fun e W' => (∃ v, e = .returned v) ∧ W' = W := by
  have key : ∀ {b' p' : Int}, b = b' → p = p' → (b < 1 ∨ (1 ≤ b ∧ p < 1) ∨ (1 ≤ b ∧ 1 ≤ p ∧ b > 64) ∨ (1 ≤ b ∧ 1 ≤ p ∧ ¬ b > 64 ∧ p > 32)) := fun _ _ => by omega
  rcases key rfl rfl with h1 | ⟨h1, h2⟩ | ⟨h1, h2, h3⟩ | ⟨h1, h2, h3, h4⟩ <;> clear key h
  all_goals by_cases hle : b ≤ p
  all_goals
    refine callsIn_of_wp Try.func28 rfl trivial ?_ rfl
    simp only [Try.ntmps28, List.size_toArray, List.length_cons, List.length_nil, Nat.reduceAdd, Nat.reduceSub, Array.replicate_succ, Array.replicate_zero, List.push_toArray, List.append_toArray, List.nil_append, List.cons_append]
    gi_wp2
    all_goals exact bodyPost_ret (results_none rfl _ _ _) rfl ⟨⟨_, rfl⟩, rfl⟩

set_option maxHeartbeats 4000000 in
set_option maxRecDepth 100000 in
theorem spots1_in (m : Nat) (l Bb Bp : Nat) (b p : Int) (hb1 : 1 ≤ b) (hb2 : b ≤ 64) (hp1 : 1 ≤ p) (hp2 : p ≤ 32) (J Jx : List Spot3 → World → Prop)
    (hY : ∀ pre x W, J pre W → pre.length < (b * p).toNat → YieldAt Fence.wide (m - 1) Try.prog l (encSpot x) W fun e W' =>
      (e = .returned (.bool true) ∧ J (pre ++ [x]) W' ∧ KpS (fun k => k = Bb ∨ k = Bp) W W') ∨ (e = .returned (.bool false) ∧ Jx (pre ++ [x]) W'))
    (hJd : ∀ pre W W', J pre W → World.grownBy W W' none → J pre W')
    (W : World) (hBb : W.cell? ⟨Bb, 0, none⟩ = some (.int .i64 b)) (hBp : W.cell? ⟨Bp, 0, none⟩ = some (.int .i64 p)) (hcp : ∃ c t f, W.heap[Bp]? = some (.cells c t f)) (h0 : J [] W) :
    CallsIn Fence.wide m Try.prog 28 #[.func (.yield l) #[] #[], .pointer (some ⟨Bb, 0, none⟩), .pointer (some ⟨Bp, 0, none⟩)] W fun e W' => (∃ v, e = .returned v) ∧
      ((∃ ys, ys = spotsTo p (b * p).toNat ∧ J ys W') ∨ (∃ pre, pre <+: spotsTo p (b * p).toNat ∧ Jx pre W')) := by
  have hg1 : ¬ (b > 64) := by omega
  have hg2 : ¬ (p > 32) := by omega
  have hbp : b * p ≤ 64 * 32 := Int.mul_le_mul hb2 hp2 (by omega) (by omega)
  have hbp0 : 0 ≤ b * p := Int.mul_nonneg (by omega) (by omega)
  obtain ⟨N, hN⟩ : ∃ N, b * p = N := ⟨_, rfl⟩
  have hw : wrap64 N = N := by unfold wrap64; omega
  rw [hN] at hY hbp hbp0 ⊢
  by_cases hle : b ≤ p
  all_goals
    refine callsIn_of_wp Try.func28 rfl trivial ?_ rfl
    simp only [Try.ntmps28, List.size_toArray, List.length_cons, List.length_nil, Nat.reduceAdd, Nat.reduceSub, Array.replicate_succ, Array.replicate_zero, List.push_toArray, List.append_toArray, List.nil_append, List.cons_append]
    gi_wp2
    gi_loopw [20] (fun v20 wr => ∃ k : Nat, (k : Int) ≤ N ∧ v20 = .int .i64 (k : Int) ∧ J (spotsTo p k) wr ∧ Hid (KpS (fun k => k = Bb ∨ k = Bp) W wr)) (fun v20 wr => (N - intOf v20).toNat)
    case atStart => exact ⟨0, hbp0, rfl, by simpa [spotsTo] using h0, KpS.refl _ _⟩
    case round =>
      obtain ⟨k, hk, rfl, hJ, HK⟩ := hrel
      by_cases hlt : (k : Int) < N
      · have hJ' := hJd _ _ wr.drew hJ ⟨rfl, rfl, rfl, Nat.le_refl _, fun _ _ _ => rfl⟩
        obtain ⟨fn, tmps, assign, body, hy, hR⟩ := hY _ ((k : Int), (k : Int) / p, (k : Int) % p) wr.drew hJ' (by rw [spotsTo_length]; omega)
        dsimp only [encSpot] at hy
        have hcb : wr.cell? ⟨Bp, 0, none⟩ = some (.int .i64 p) := KpS.cell' HK.out (.inr rfl) hBp
        have hne : (p == 0) = false := by rw [beq_eq_false_iff_ne]; omega
        have hq0 : 0 ≤ (k : Int) / p := Int.ediv_nonneg (by omega) (by omega)
        have hq1 : (k : Int) / p ≤ (k : Int) := Int.ediv_le_self _ (by omega)
        have hqw : wrap64 ((k : Int) / p) = (k : Int) / p := by unfold wrap64; omega
        have hqw2 : IntKind.i64.wrap ((k : Int) / p) = (k : Int) / p := IntWalk.i64_in _ (by omega)
        have hmw : (k : Int).tmod p = (k : Int) % p := Int.tmod_eq_emod_of_nonneg (by omega)
        clear hq0 hq1
        have hR2 := hR.mono (R' := fun e W' => ∃ bb : Bool, e = .returned (.bool bb) ∧ ((bb = true ∧ J (spotsTo p k ++ [((k : Int), (k : Int) / p, (k : Int) % p)]) W' ∧ KpS (fun k => k = Bb ∨ k = Bp) wr.drew W') ∨ (bb = false ∧ Jx (spotsTo p k ++ [((k : Int), (k : Int) / p, (k : Int) % p)]) W'))) (fun e W' h => h.elim (fun ⟨h1, h2, h3⟩ => ⟨true, h1, .inl ⟨rfl, h2, h3⟩⟩) (fun ⟨h1, h2⟩ => ⟨false, h1, .inr ⟨rfl, h2⟩⟩))
        clear hR
        clear hJ hJ' hY hBb hBp hg1 hg2
        gi_wp2
        gi_region_with ((try refine ⟨hdd _, ?_⟩); refine hR2.mono ?_; clear hR2; rintro e W2 ⟨bb, rfl, hor⟩)
        all_goals gi_wp2
        all_goals rcases hor with ⟨rfl, hJ2, hk2⟩ | ⟨rfl, hx2⟩
        all_goals first
          | exact absurd ‹(!true) = true› (by decide)
          | exact absurd ‹(!false) = false› (by decide)
          | exact bodyPost_ret (results_none rfl _ _ _) rfl ⟨⟨_, rfl⟩, .inr ⟨spotsTo p (k + 1), spotsTo_prefix p (by omega), by rw [spotsTo_snoc]; exact hx2⟩⟩
          | (have HK2 : Hid (KpS (fun k => k = Bb ∨ k = Bp) W W2) := KpS.trans HK.out (KpS.trans (KpS.of_grownBy (row := none) ⟨rfl, rfl, rfl, Nat.le_refl _, fun _ _ _ => rfl⟩ (fun _ e => by cases e)) hk2)
             clear hk2
             go_roundw
             case rel => exact ⟨k + 1, by omega, by go_num, by rw [spotsTo_snoc]; exact hJ2, HK2⟩
             case measure => simp [intOf]; omega)
      · have hke : k = N.toNat := by omega
        subst hke
        gi_wp2
        go_end0
        first | exact ⟨⟨_, rfl⟩, .inl hJ⟩ | exact ⟨⟨_, rfl⟩, .inl ⟨_, rfl, hJ⟩⟩ | exact hJ

set_option maxHeartbeats 1000000 in
theorem spots_calls (b p : Int) (w : World) :
    Calls Try.prog 22 #[.int .i64 b, .int .i64 p] w fun e w' => e = .returned (.func (.func 28) #[] #[.pointer (some ⟨w.heap.size, 0, none⟩), .pointer (some ⟨w.heap.size + 1, 0, none⟩)]) ∧
      w' = (w.alloc (.cells #[.int .i64 b] 3)).alloc (.cells #[.int .i64 p] 3) := by
  go_enter Try.func22, Try.ntmps22
  go_wp2
  go_ret
  exact ⟨rfl, rfl⟩
theorem spots_stops (m : Nat) (Bb Bp : Nat) (b p : Int) (w : World) (hBb : w.heap[Bb]? = some (.cells #[.int .i64 b] 3 (0, 0))) (hBp : w.heap[Bp]? = some (.cells #[.int .i64 p] 3 (0, 0))) :
    SeqStopsK Fence.wide m Try.prog 28 #[.pointer (some ⟨Bb, 0, none⟩), .pointer (some ⟨Bp, 0, none⟩)] encSpot (KpS (fun k => k = Bb ∨ k = Bp)) (fun ys => ys = spotsList b p) (fun pre => pre <+: spotsList b p) (spotsList b p).length w := fun l J Jx W hW hJ _ hY h0 => by
  have ha := (hW.block Bb (Array.getElem?_eq_some_iff.1 hBb).1).trans hBb
  have hb := (hW.block Bp (Array.getElem?_eq_some_iff.1 hBp).1).trans hBp
  have ca : W.cell? ⟨Bb, 0, none⟩ = some (.int .i64 b) := by simp [World.cell?, ha]
  have cb : W.cell? ⟨Bp, 0, none⟩ = some (.int .i64 p) := by simp [World.cell?, hb]
  by_cases h : b < 1 ∨ p < 1 ∨ b > 64 ∨ p > 32
  · have e : spotsList b p = [] := by unfold spotsList; rw [if_pos h]
    rw [e]
    refine (spots1_out m l Bb Bp b p h W ca cb).mono ?_
    rintro e W' ⟨hv, rfl⟩
    exact ⟨hv, .inl ⟨[], rfl, h0⟩⟩
  · have e : spotsList b p = spotsTo p (b * p).toNat := by unfold spotsList; rw [if_neg h]
    rw [e] at hY ⊢
    rw [spotsTo_length] at hY
    exact spots1_in m l Bb Bp b p (by omega) (by omega) (by omega) (by omega) J Jx hY (fun pre A B hj hg => hJ pre A B none hj hg (fun r e => by cases e)) W ca cb ⟨_, _, _, hb⟩ h0
end Go.Proofs.Ytflaaphlghkpnaa.Iter
