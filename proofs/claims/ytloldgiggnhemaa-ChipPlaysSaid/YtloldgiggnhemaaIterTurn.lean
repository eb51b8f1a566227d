/-
  turn.Turn: its function value gives the numbers from one on, round, each once.
-/
import Derived.Test.YtloldgiggnhemaaIter
import Derived.Test.YtloldgiggnhemaaProg
import Derived.Lib.Hide
set_option linter.unusedVariables false
set_option linter.unusedSimpArgs false
namespace Go.Proofs.Ytloldgiggnhemaa.Iter
open Go.RowKit Go.Shelf
attribute [local go_sem] Oper.semAt_some

/-- The numbers a, a + 1, .. (n of them). -/
def upList (a : Int) : Nat → List Int
  | 0 => []
  | n + 1 => a :: upList (a + 1) n
theorem upList_length (a : Int) : ∀ n, (upList a n).length = n := by
  intro n
  induction n generalizing a with
  | zero => rfl
  | succ n ih => simp [upList, ih]
theorem upList_snoc (a : Int) (n : Nat) : upList a (n + 1) = upList a n ++ [a + (n : Int)] := by
  induction n generalizing a with
  | zero => simp [upList]
  | succ n ih =>
    rw [upList, ih (a + 1)]
    show _ = a :: upList (a + 1) n ++ _
    rw [List.cons_append]
    congr 3
    omega
theorem upList_get (a : Int) (n i : Nat) (h : i < n) : (upList a n)[i]? = some (a + (i : Int)) := by
  induction n generalizing a i with
  | zero => omega
  | succ n ih =>
    cases i with
    | zero => simp [upList]
    | succ i =>
      rw [upList, List.getElem?_cons_succ, ih (a + 1) i (by omega)]
      congr 1
      omega
theorem upList_prefix (a : Int) (m n : Nat) (h : m ≤ n) : upList a m <+: upList a n := by
  induction n generalizing a m with
  | zero => obtain rfl : m = 0 := by omega
            exact List.prefix_rfl
  | succ n ih =>
    cases m with
    | zero => exact List.nil_prefix
    | succ m => exact (List.cons_prefix_cons).2 ⟨rfl, ih (a + 1) m (by omega)⟩

set_option maxHeartbeats 2000000 in
set_option maxRecDepth 100000 in
/-- 'for i := from; i < to; i++ { if !yield(i) { return false } }; return true'. -/
theorem upTo_in (n : Nat) (l N : Nat) (a b : Int) (ha : -1000000 ≤ a) (hb : b ≤ 9223372036854775807) (pre0 : List Int) (J Jx : List Int → World → Prop)
    (hY : ∀ pre x W, J pre W → pre.length < N → YieldAt Fence.wide (n - 1) Try.prog l #[.int .i64 x] W fun e W' =>
      (e = .returned (.bool true) ∧ J (pre ++ [x]) W') ∨ (e = .returned (.bool false) ∧ Jx (pre ++ [x]) W'))
    (hN : pre0.length + (b - a).toNat ≤ N) (W : World) (h0 : J pre0 W) :
    CallsIn Fence.wide n Try.prog 55 #[.int .i64 a, .int .i64 b, .func (.yield l) #[] #[]] W fun e W' =>
      (e = .returned (.bool true) ∧ J (pre0 ++ upList a (b - a).toNat) W') ∨ (e = .returned (.bool false) ∧ ∃ q, q <+: upList a (b - a).toNat ∧ Jx (pre0 ++ q) W') := by
  refine callsIn_of_wp Try.func55 rfl trivial ?_ rfl
  simp only [Try.ntmps55, List.size_toArray, List.length_cons, List.length_nil, Nat.reduceAdd, Nat.reduceSub, Array.replicate_succ, Array.replicate_zero, List.push_toArray, List.append_toArray, List.nil_append, List.cons_append]
  gi_wp2
  gi_loopw [7] (fun v7 wr => ∃ k : Nat, k ≤ (b - a).toNat ∧ v7 = .int .i64 (a + (k : Int)) ∧ J (pre0 ++ upList a k) wr) (fun v7 wr => (b - intOf v7).toNat)
  case atStart => exact ⟨0, Nat.zero_le _, by simp, by simpa [upList] using h0⟩
  case round =>
    obtain ⟨k, hk, rfl, hJ⟩ := hrel
    by_cases hlt : a + (k : Int) < b
    · obtain ⟨fn, tmps, assign, body, hy, hR⟩ := hY _ (a + (k : Int)) wr hJ (by simp [upList_length]; omega)
      gi_wp2_with ((try refine ⟨hdd _, ?_⟩); refine hR.mono ?_; clear hR; rintro e W2 (⟨rfl, hJ2⟩ | ⟨rfl, hx2⟩))
      · go_roundw
        case rel => exact ⟨k + 1, by omega, by go_num, by rw [upList_snoc, ← List.append_assoc]; exact hJ2⟩
        case measure => simp [intOf]; omega
      · go_ret
        refine .inr ⟨rfl, upList a (k + 1), upList_prefix a _ _ (by omega), ?_⟩
        rw [upList_snoc, ← List.append_assoc]
        exact hx2
    · gi_wp2
      go_ret
      have hke : k = (b - a).toNat := by omega
      exact .inl ⟨rfl, by rw [← hke]; exact hJ⟩
end Go.Proofs.Ytloldgiggnhemaa.Iter
namespace Go.Proofs.Ytloldgiggnhemaa.Iter
open Go.RowKit Go.Shelf
attribute [local go_sem] Oper.semAt_some

/-- Where Turn begins. -/
def turnAt (n fr : Int) : Int := if fr.tmod n < 0 then fr.tmod n + n else fr.tmod n
/-- What Turn gives. -/
def turnList (n fr : Int) : List Int := if n < 1 then [] else upList (turnAt n fr) (n - turnAt n fr).toNat ++ upList 0 (turnAt n fr).toNat
theorem turnAt_range (n fr : Int) (h : 1 ≤ n) : 0 ≤ turnAt n fr ∧ turnAt n fr < n := by
  have h1 : fr.tmod n < n := Int.tmod_lt_of_pos _ (by omega)
  have h2 : -n < fr.tmod n := by
    have := Int.lt_tmod_of_pos fr (show 0 < n by omega)
    omega
  unfold turnAt
  split <;> omega
theorem turnList_length (n fr : Int) : (turnList n fr).length = n.toNat := by
  unfold turnList
  split
  · simp; omega
  · have := turnAt_range n fr (by omega)
    rw [List.length_append, upList_length, upList_length]
    omega

set_option maxHeartbeats 2000000 in
set_option maxRecDepth 100000 in
theorem turn1_in (m : Nat) (l Bn Bf : Nat) (n fr : Int) (hn : n ≤ 9223372036854775807) (J Jx : List Int → World → Prop)
    (hY : ∀ pre x W, J pre W → pre.length < (turnList n fr).length → YieldAt Fence.wide (m - 1) Try.prog l #[.int .i64 x] W fun e W' =>
      (e = .returned (.bool true) ∧ J (pre ++ [x]) W' ∧ KpS (fun k => k = Bn ∨ k = Bf) W W') ∨ (e = .returned (.bool false) ∧ Jx (pre ++ [x]) W'))
    (W : World) (hBn : W.cell? ⟨Bn, 0, none⟩ = some (.int .i64 n)) (hBf : W.cell? ⟨Bf, 0, none⟩ = some (.int .i64 fr)) (h0 : J [] W) :
    CallsIn Fence.wide m Try.prog 54 #[.func (.yield l) #[] #[], .pointer (some ⟨Bn, 0, none⟩), .pointer (some ⟨Bf, 0, none⟩)] W fun e W' => (∃ v, e = .returned v) ∧
      ((∃ ys, ys = turnList n fr ∧ J ys W') ∨ (∃ pre, pre <+: turnList n fr ∧ Jx pre W')) := by
  by_cases h1 : n < 1
  · refine callsIn_of_wp Try.func54 rfl trivial ?_ rfl
    simp only [Try.ntmps54, List.size_toArray, List.length_cons, List.length_nil, Nat.reduceAdd, Nat.reduceSub, Array.replicate_succ, Array.replicate_zero, List.push_toArray, List.append_toArray, List.nil_append, List.cons_append]
    gi_wp2
    refine bodyPost_ret (results_none rfl _ _ _) rfl ?_
    exact ⟨⟨_, rfl⟩, .inl ⟨[], by unfold turnList; rw [if_pos h1], h0⟩⟩
  · have hr := turnAt_range n fr (by omega)
    have hl := turnList_length n fr
    have hL : turnList n fr = upList (turnAt n fr) (n - turnAt n fr).toNat ++ upList 0 (turnAt n fr).toNat := by unfold turnList; rw [if_neg h1]
    have hY' : ∀ k pre x W, J pre W → pre.length < (turnList n fr).length → YieldAt Fence.wide k Try.prog l #[.int .i64 x] W fun e W' =>
        (e = .returned (.bool true) ∧ J (pre ++ [x]) W') ∨ (e = .returned (.bool false) ∧ Jx (pre ++ [x]) W') := fun k pre x W hj hlt =>
      YieldAt.mono (yieldAt_anyDepth rfl k (hY pre x W hj hlt)) fun e W' h => h.imp (fun ⟨a, b, _⟩ => ⟨a, b⟩) id
    have c1 := upTo_in (m - 1) l (turnList n fr).length (turnAt n fr) n (by omega) hn [] J Jx (hY' _) (by simp; omega) W h0
    have c2 := fun W2 hj => upTo_in (m - 1) l (turnList n fr).length 0 (turnAt n fr) (by omega) (by omega) (upList (turnAt n fr) (n - turnAt n fr).toNat) J Jx (hY' _) (by rw [upList_length]; omega) W2 hj
    obtain ⟨t, ht⟩ : ∃ t, fr.tmod n = t := ⟨_, rfl⟩
    have ht1 : t < n := by rw [← ht]; exact Int.tmod_lt_of_pos _ (by omega)
    have ht2 : -n < t := by have := Int.lt_tmod_of_pos fr (show 0 < n by omega); omega
    have hw : wrap64 t = t := by unfold wrap64; omega
    have hne : (n == 0) = false := by rw [beq_eq_false_iff_ne]; omega
    have hft : turnAt n fr = if t < 0 then t + n else t := by unfold turnAt; rw [ht]
    rw [hL]
    clear hL hY hY' hl
    generalize hF : turnAt n fr = F at *
    have Hft := Lib.hid hft
    clear hft hF
    by_cases hneg : t < 0
    · have hf2 : t + n = F := by rw [Hft.out, if_pos hneg]
      have Hf2 := Lib.hid hf2
      refine callsIn_of_wp Try.func54 rfl trivial ?_ rfl
      simp only [Try.ntmps54, List.size_toArray, List.length_cons, List.length_nil, Nat.reduceAdd, Nat.reduceSub, Array.replicate_succ, Array.replicate_zero, List.push_toArray, List.append_toArray, List.nil_append, List.cons_append]
      gi_wp2_with (first
        | (refine ⟨trivial, hdd _, ?_⟩; gi_at_call 55; refine c1.mono ?_; clear c1; rintro e W1 (⟨rfl, hJ1⟩ | ⟨rfl, q, hq, hx⟩); (try simp only [List.nil_append] at hJ1))
        | (refine ⟨trivial, hdd _, ?_⟩; gi_at_call 55; refine (c2 _ hJ1).mono ?_; clear c2; rintro e W2 (⟨rfl, hJ2⟩ | ⟨rfl, q, hq, hx⟩)))
      · go_end0
        exact ⟨⟨_, rfl⟩, .inl ⟨_, rfl, by simpa using hJ2⟩⟩
      · go_end0
        exact ⟨⟨_, rfl⟩, .inr ⟨_, (List.prefix_append_right_inj _).2 (by simpa using hq), by simpa using hx⟩⟩
      · go_end0
        exact ⟨⟨_, rfl⟩, .inr ⟨q, hq.trans (List.prefix_append _ _), by simpa using hx⟩⟩
    · have hf2 : t = F := by rw [Hft.out, if_neg hneg]
      subst hf2
      refine callsIn_of_wp Try.func54 rfl trivial ?_ rfl
      simp only [Try.ntmps54, List.size_toArray, List.length_cons, List.length_nil, Nat.reduceAdd, Nat.reduceSub, Array.replicate_succ, Array.replicate_zero, List.push_toArray, List.append_toArray, List.nil_append, List.cons_append]
      gi_wp2_with (first
        | (refine ⟨trivial, hdd _, ?_⟩; gi_at_call 55; refine c1.mono ?_; clear c1; rintro e W1 (⟨rfl, hJ1⟩ | ⟨rfl, q, hq, hx⟩); (try simp only [List.nil_append] at hJ1))
        | (refine ⟨trivial, hdd _, ?_⟩; gi_at_call 55; refine (c2 _ hJ1).mono ?_; clear c2; rintro e W2 (⟨rfl, hJ2⟩ | ⟨rfl, q, hq, hx⟩)))
      · go_end0
        exact ⟨⟨_, rfl⟩, .inl ⟨_, rfl, by simpa using hJ2⟩⟩
      · go_end0
        exact ⟨⟨_, rfl⟩, .inr ⟨_, (List.prefix_append_right_inj _).2 (by simpa using hq), by simpa using hx⟩⟩
      · go_end0
        exact ⟨⟨_, rfl⟩, .inr ⟨q, hq.trans (List.prefix_append _ _), by simpa using hx⟩⟩

set_option maxHeartbeats 1000000 in
theorem turn_calls (n fr : Int) (w : World) :
    Calls Try.prog 42 #[.int .i64 n, .int .i64 fr] w fun e w' => e = .returned (.func (.func 54) #[] #[.pointer (some ⟨w.heap.size, 0, none⟩), .pointer (some ⟨w.heap.size + 1, 0, none⟩)]) ∧
      w' = (w.alloc (.cells #[.int .i64 n] 3)).alloc (.cells #[.int .i64 fr] 3) := by
  go_enter Try.func42, Try.ntmps42
  go_wp2
  go_ret
  exact ⟨rfl, rfl⟩
theorem turn_stops (m : Nat) (Bn Bf : Nat) (n fr : Int) (hn : n ≤ 9223372036854775807) (w : World) (hBn : w.heap[Bn]? = some (.cells #[.int .i64 n] 3 (0, 0))) (hBf : w.heap[Bf]? = some (.cells #[.int .i64 fr] 3 (0, 0))) :
    SeqStopsK Fence.wide m Try.prog 54 #[.pointer (some ⟨Bn, 0, none⟩), .pointer (some ⟨Bf, 0, none⟩)] (fun x : Int => #[Value.int .i64 x]) (KpS (fun k => k = Bn ∨ k = Bf)) (fun ys => ys = turnList n fr) (fun pre => pre <+: turnList n fr) (turnList n fr).length w := fun l J Jx W hW _ _ hY h0 => by
  have a := (hW.block Bn (Array.getElem?_eq_some_iff.1 hBn).1).trans hBn
  have b := (hW.block Bf (Array.getElem?_eq_some_iff.1 hBf).1).trans hBf
  exact turn1_in m l Bn Bf n fr hn J Jx hY W (by simp [World.cell?, a]) (by simp [World.cell?, b]) h0
end Go.Proofs.Ytloldgiggnhemaa.Iter
