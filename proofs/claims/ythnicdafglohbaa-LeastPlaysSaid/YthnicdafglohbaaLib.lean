/-  A tally's best, Least, Most (of one kind).  -/
import Derived.Test.YthnicdafglohbaaLio
set_option linter.unusedVariables false
set_option linter.unusedSimpArgs false
namespace Go.Proofs.Ythnicdafglohbaa.Li
open Go.RowKit Go.Maps Go.Sort Go.Lib Go.WideMaps Go.Proofs.YthnicdafglohbaaW.PrintWords Go.Proofs.YthnicdafglohbaaW.PrintLast Go.Proofs.YthnicdafglohbaaW.PrintMore
attribute [local go_sem] max2_int min2_int max_two min_two max_three min_three max_four min_four

def bstep (lt : Int → Int → Bool) (c : Int → Int) (r : Int × Int × Bool) (x : Int) : Int × Int × Bool := if (!r.2.2 || lt (c x) r.2.1) = true then (x, c x, true) else r
/-- The first of all that no other one is better than. -/
def bst (lt : Int → Int → Bool) (c : Int → Int) (ks : List Int) : Int × Int × Bool := ks.foldl (bstep lt c) (0, 0, false)
theorem bst_succ (lt : Int → Int → Bool) (c : Int → Int) (ks : List Int) (i : Nat) (hi : i < ks.length) : bst lt c (ks.take (i + 1)) = bstep lt c (bst lt c (ks.take i)) ks[i] := by
  unfold bst
  rw [List.take_succ_eq_append_getElem hi, List.foldl_append]
  rfl
set_option maxHeartbeats 4000000 in
set_option maxRecDepth 100000 in
theorem best {w : World} {tb b n : Nat} {c : Int → Int} (h : Tl w tb b c n) (hn : n ≤ 1000000) (g : Nat) (lt : Int → Int → Bool) (hg : ∀ (x y : Int) (W : World), Calls Try.prog g #[.int .i64 x, .int .i64 y] W fun e w' => e = .returned (.bool (lt x y)) ∧ w' = W)
    (eg : ∀ args w, (callFunc g args).run Try.prog w = .ok (.enter g args) w) :
    Calls Try.prog 29 #[.pointer (some ⟨tb, 0, none⟩), .func (.func g) #[] #[]] w fun e w' => ∃ ks, KSet c ks ∧ e = .returned (.tuple #[(encZ (bst lt c ks).1), .int .i64 (bst lt c ks).2.1, .bool (bst lt c ks).2.2]) ∧ Below w.heap.size w w' := by
  have HT := Aside0.mk h
  have HN := Aside0.mk hn
  have HG := Aside0.mk hg
  clear h hn hg
  go_enter Try.func29, Try.ntmps29
  go_wp2_with fail
  refine (keys HT.out HN.out).mono ?_
  rintro ev w1 ⟨A, cap, ks, rfl, hle, hln, hrow, hset, hb⟩
  have HR := Aside0.mk hrow
  have HS := Aside0.mk hset
  have HB := Aside0.mk hb
  have HL := Aside0.mk (Nat.le_trans hln HN.out)
  have HT1 := Aside0.mk (HT.out.below hb)
  have c0 : w1.cell? ⟨tb, 0, none⟩ = some (.map (some b)) := (blk_cell HT1.out.box 0).trans rfl
  clear hrow hset hb hln hle
  go_wp2_with fail
  go_loopw [4, 5, 6, 13] (fun v4 v5 v6 v13 wr => ∃ (i : Nat), i ≤ ks.length ∧ v4 = encZ (bst lt c (ks.take i)).1 ∧ v5 = .int .i64 (bst lt c (ks.take i)).2.1 ∧ v6 = .bool (bst lt c (ks.take i)).2.2 ∧ v13 = .int .i64 (i : Int) ∧ wr = w1) (fun _ _ _ v13 _ => ks.length - (intOf v13).toNat)
  case atStart => exact ⟨0, Nat.zero_le _, rfl, rfl, rfl, rfl, rfl⟩
  case round =>
    obtain ⟨i, hi, rfl, rfl, rfl, rfl, hwr⟩ := hrel
    rw [hwr]
    clear hwr
    by_cases hlt : i < ks.length
    · have hlt2 : (i : Int) < (ks.length : Int) := by omega
      have HLT := Aside0.mk hlt
      have hw2 : wrap64 ((i : Int) + 1) = ((i + 1 : Nat) : Int) := by rw [show (i : Int) + 1 = ((i + 1 : Nat) : Int) by omega]; exact wrapS _ (by omega) (by have := HL.out; omega)
      obtain ⟨ad, rfl, hx⟩ := HR.out i hlt
      have hbs := bst_succ lt c ks i hlt
      have hwf := HS.out.wf _ (List.getElem_mem hlt)
      obtain ⟨k, hk⟩ : ∃ k, ks[i] = k := ⟨_, rfl⟩
      rw [hk] at hx hbs hwf
      obtain ⟨r, hr⟩ : ∃ r, bst lt c (ks.take i) = r := ⟨_, rfl⟩
      rw [hr] at hbs ⊢
      obtain ⟨rk, rn, ro⟩ := r
      have HBS := Aside0.mk hbs
      obtain ⟨D, hown, hat⟩ := HT1.out.map
      have hc := hat k hwf
      have wf := hwf
      have hkey : keyOf Try.prog 3 (.int .i64 k) = some (.int .i64 k) := keyOf_int_mk Try.underlying3 wf
      obtain ⟨ck, hck⟩ : ∃ z, c k = z := ⟨_, rfl⟩
      rw [hck] at hc
      have HCK := Aside0.mk hck
      clear hat hwf hbs hr hk hlt hi hck wf
      cases ro with
      | false =>
        have e1 : bst lt c (ks.take (i + 1)) = (k, ck, true) := by rw [HBS.out, ← HCK.out]; rfl
        have E1 := Aside0.mk e1
        clear e1
        go_wp2_with (first
          | (at_lookup; refine wpList_lookup_own_int _ rfl _ _ 44 rfl 3 3 .i64 law Try.underlying44 Try.underlying3 (zero3 _) b n D rfl hown _ _ rfl hkey ?_; intro c2 hat hwc; have hcc : zd = .lit (.int .i64 0) := rfl; rw [← hcc, hc] at hat; cases hat; clear hcc hwc)
          | fail)
        go_roundw
        case measure =>
          have hm : ks.length - ((i + 1 : Nat) : Int).toNat < ks.length - ((i : Nat) : Int).toNat := by
            rw [Int.toNat_natCast, Int.toNat_natCast]
            exact Nat.sub_lt_sub_left HLT.out (Nat.lt_succ_self i)
          first | exact hm | (rw [hw2]; exact hm)
        case rel => exact ⟨i + 1, HLT.out, by rw [E1.out], by rw [E1.out], by rw [E1.out], by first | rw [hw2] | rfl, by first | rfl | trivial⟩
      | true =>
        go_wp2_with (first
          | (at_lookup; refine wpList_lookup_own_int _ rfl _ _ 44 rfl 3 3 .i64 law Try.underlying44 Try.underlying3 (zero3 _) b n D rfl hown _ _ rfl hkey ?_; intro c2 hat hwc; have hcc : zd = .lit (.int .i64 0) := rfl; rw [← hcc, hc] at hat; cases hat; clear hcc hwc)
          | fail)
        refine (HG.out ck rn w1).mono ?_
        rintro ev w2 ⟨rfl, hw2'⟩
        rw [hw2']
        clear hw2' w2
        cases hlt : lt ck rn with
        | true =>
          have e1 : bst lt c (ks.take (i + 1)) = (k, ck, true) := by rw [HBS.out, ← HCK.out]; unfold bstep; rw [HCK.out, hlt]; rfl
          have E1 := Aside0.mk e1
          clear e1 hlt
          go_wp2_with fail
          go_roundw
          case measure =>
            have hm : ks.length - ((i + 1 : Nat) : Int).toNat < ks.length - ((i : Nat) : Int).toNat := by
              rw [Int.toNat_natCast, Int.toNat_natCast]
              exact Nat.sub_lt_sub_left HLT.out (Nat.lt_succ_self i)
            first | exact hm | (rw [hw2]; exact hm)
          case rel => exact ⟨i + 1, HLT.out, by rw [E1.out], by rw [E1.out], by rw [E1.out], by first | rw [hw2] | rfl, by first | rfl | trivial⟩
        | false =>
          have e1 : bst lt c (ks.take (i + 1)) = (rk, rn, true) := by rw [HBS.out]; unfold bstep; rw [HCK.out, hlt]; rfl
          have E1 := Aside0.mk e1
          clear e1 hlt
          go_wp2_with fail
          go_roundw
          case measure =>
            have hm : ks.length - ((i + 1 : Nat) : Int).toNat < ks.length - ((i : Nat) : Int).toNat := by
              rw [Int.toNat_natCast, Int.toNat_natCast]
              exact Nat.sub_lt_sub_left HLT.out (Nat.lt_succ_self i)
            first | exact hm | (rw [hw2]; exact hm)
          case rel => exact ⟨i + 1, HLT.out, by rw [E1.out], by rw [E1.out], by rw [E1.out], by first | rw [hw2] | rfl, by first | rfl | trivial⟩
    · have he : i = ks.length := by omega
      subst he
      have hnn : ¬ (((ks.length : Nat) : Int) < (ks.length : Int)) := by omega
      clear hlt hi
      rw [List.take_length]
      go_wp2_with fail
      go_ret3
      exact ⟨ks, HS.out, rfl, HB.out⟩
theorem bestNil (w : World) (fv : Value) : Calls Try.prog 29 #[.pointer none, fv] w fun e w' => e = .returned (.tuple #[(.int .i64 0), .int .i64 0, .bool false]) ∧ Below w.heap.size w w' := by
  go_enter Try.func29, Try.ntmps29
  go_wp2_with fail
  refine (keysNil w).mono ?_
  rintro ev w1 ⟨rfl, hb⟩
  have HB := Aside0.mk hb
  clear hb
  go_wp2_with fail
  go_loopw [4, 5, 6, 13] (fun v4 v5 v6 v13 wr => v4 = (.int .i64 0) ∧ v5 = .int .i64 0 ∧ v6 = .bool false ∧ v13 = .int .i64 0 ∧ wr = w1) (fun _ _ _ _ _ => 0)
  case atStart => exact ⟨rfl, rfl, rfl, rfl, rfl⟩
  case round =>
    obtain ⟨rfl, rfl, rfl, rfl, hwr⟩ := hrel
    rw [hwr]
    clear hwr
    go_wp2_with fail
    go_ret3
    exact ⟨rfl, HB.out⟩
def ltI : Int → Int → Bool := fun a b => decide (a < b)
def gtI : Int → Int → Bool := fun a b => decide (a > b)
theorem ltC (x y : Int) (W : World) : Calls Try.prog 30 #[.int .i64 x, .int .i64 y] W fun e w' => e = .returned (.bool (ltI x y)) ∧ w' = W := by
  unfold ltI
  go_enter Try.func30, Try.ntmps30
  go_wp2
  all_goals (go_ret; exact ⟨by simp_all, rfl⟩)
theorem least {w : World} {tb b n : Nat} {c : Int → Int} (h : Tl w tb b c n) (hn : n ≤ 1000000) :
    Calls Try.prog 21 #[.pointer (some ⟨tb, 0, none⟩)] w fun e w' => ∃ ks, KSet c ks ∧ e = .returned (.tuple #[(encZ (bst ltI c ks).1), .int .i64 (bst ltI c ks).2.1, .bool (bst ltI c ks).2.2]) ∧ Below w.heap.size w w' := by
  have hcc := best h hn 30 ltI ltC (enters_of Try.func30 (by kernel_rfl) rfl)
  clear h hn
  go_enter Try.func21, Try.ntmps21
  go_wp2_with fail
  refine hcc.mono ?_
  clear hcc
  rintro ev w1 ⟨ks, hs, rfl, hb⟩
  have HS := Aside0.mk hs
  have HB := Aside0.mk hb
  clear hs hb
  go_wp2_with fail
  go_ret3
  exact ⟨ks, HS.out, rfl, HB.out⟩
end Go.Proofs.Ythnicdafglohbaa.Li
