/-  A tally (keys of one kind): what it is in memory, what its methods do.  -/
import Derived.Test.YthnicdafglohbaaSk
import Derived.Test.YthnicdafglohbaaWMore
import Derived.Maps.Own
import Derived.Maps.OwnOps
import Derived.Maps.OwnSet
import Derived.Maps.Views
import Derived.StringKeys
import Derived.Below
import Derived.Tactics
import Derived.WalkKit
import Derived.KernelRfl
import Derived.RowKit3
import Derived.Deep.QuietTactic
import Derived.BigQuiet
import Derived.Deep.DeepCutAuto
import Derived.WalkSpells
set_option linter.unusedVariables false
set_option linter.unusedSimpArgs false
namespace Go.Proofs.Ythnicdafglohbaa.Ls
open Go.RowKit Go.Maps Go.Sort Go.WideMaps Go.Proofs.YthnicdafglohbaaW.PrintWords Go.Proofs.YthnicdafglohbaaW.PrintLast Go.Proofs.YthnicdafglohbaaW.PrintMore
attribute [local go_sem] max2_int min2_int max_two min_two max_three min_three max_four min_four

theorem law : Keyed Try.prog 9 := string_keyed Try.underlying9
theorem zero3 (w : World) : (zeroValue 3).run Try.prog w = .ok (.int .i64 0) w := by kernel_rfl
theorem hkeyS {k : List UInt8} (wf : k.length ≤ maxLen) : keyOf Try.prog 9 (encStr k) = some (.string k) := keyOf_string_mk Try.underlying9 (s := ⟨k.toArray⟩) (by simpa [ByteArray.size] using wf)
abbrev Dt := DataW Unit
def zd : Dt := .lit (.int .i64 0)
/-- A tally whose map is block b: it holds c. -/
structure Tl (w : World) (tb b : Nat) (c : (List UInt8) → Int) (n : Nat) : Prop where
  box : w.heap[tb]? = some (.cells #[.map (some b)] 56 (0, 0))
  map : ∃ D : Dt, w.ownsMap Try.prog 9 (plainElem Try.prog 3) b n D ∧ ∀ k : (List UInt8), k.length ≤ maxLen → D.atKey (.string k) zd = .lit (.int .i64 (c k))
  rng : ∀ k, 0 ≤ c k ∧ c k ≤ 1099511627776
theorem Tl.lt {w : World} {tb b : Nat} {c : (List UInt8) → Int} {n : Nat} (h : Tl w tb b c n) : tb < w.heap.size ∧ b < w.heap.size := by
  obtain ⟨D, h1, -⟩ := h.map
  exact ⟨(Array.getElem?_eq_some_iff.1 h.box).1, h1.lt⟩
theorem Tl.ne {w : World} {tb b : Nat} {c : (List UInt8) → Int} {n : Nat} (h : Tl w tb b c n) : tb ≠ b := by
  rintro rfl
  obtain ⟨D, ⟨es, clock, hb, -⟩, -⟩ := h.map
  rw [h.box] at hb
  cases hb
/-- What keeps the two blocks keeps the tally. -/
theorem Tl.keep {w w' : World} {tb b : Nat} {c : (List UInt8) → Int} {n : Nat} (h : Tl w tb b c n) (h1 : w'.heap[tb]? = w.heap[tb]?) (h2 : w'.heap[b]? = w.heap[b]?) : Tl w' tb b c n := by
  obtain ⟨D, ⟨es, clock, hb, hF, hs, hD⟩, hat⟩ := h.map
  exact ⟨h1.trans h.box, ⟨D, ⟨es, clock, h2.trans hb, hF, hs, hD⟩, hat⟩, h.rng⟩
theorem Tl.below {w w' : World} {tb b : Nat} {c : (List UInt8) → Int} {n : Nat} (h : Tl w tb b c n) (hb : Below w.heap.size w w') : Tl w' tb b c n := h.keep (hb.block _ h.lt.1) (hb.block _ h.lt.2)
theorem Tl.grown {w w' : World} {tb b b' : Nat} {c : (List UInt8) → Int} {n : Nat} (h : Tl w tb b c n) (hg : w.grownBy w' (some b')) (h1 : tb ≠ b') (h2 : b ≠ b') : Tl w' tb b c n :=
  h.keep (hg.block _ h.lt.1 (by simpa using h1)) (hg.block _ h.lt.2 (by simpa using h2))
theorem Tl.mono {w : World} {tb b : Nat} {c : (List UInt8) → Int} {n m : Nat} (h : Tl w tb b c n) (hm : n ≤ m) : Tl w tb b c m := by
  obtain ⟨D, h1, hat⟩ := h.map
  exact ⟨h.box, ⟨D, h1.mono hm, hat⟩, h.rng⟩
set_option maxHeartbeats 2000000 in
set_option maxRecDepth 100000 in
theorem new (w : World) : Calls Try.prog 17 #[] w fun e w' => e = .returned (.pointer (some ⟨w.heap.size + 1, 0, none⟩)) ∧ Tl w' (w.heap.size + 1) w.heap.size (fun _ => 0) 0 ∧ Below w.heap.size w w' := by
  have hmm := @run_makeMap Try.prog
  go_enter Try.func17, Try.ntmps17
  go_wp2_with fail
  go_ret
  have h1 := blk_new (w.alloc (.map #[] 0)) (.cells #[.map (some w.heap.size)] 56)
  have h2 : (w.alloc (.map #[] 0)).heap.size = w.heap.size + 1 := by simp
  rw [h2] at h1
  refine ⟨rfl, ⟨h1, ⟨.map [], (World.ownsMap_made w Try.prog 9 _).alloc _, fun k _ => rfl⟩, fun k => ⟨Int.le_refl _, by decide⟩⟩, below_alloc (below_alloc (Below.refl _ _) _) _⟩
def mn (a b : Int) : Int := if b < a then b else a
def addZ (c n : Int) : Int := mn (if c + mn n 1099511627776 < 0 then 0 else c + mn n 1099511627776) 1099511627776
theorem addZ_rng (c n : Int) : 0 ≤ addZ c n ∧ addZ c n ≤ 1099511627776 := by
  unfold addZ mn
  split <;> (try split) <;> (try split) <;> omega
def updZ (c : (List UInt8) → Int) (k : (List UInt8)) (x : Int) : (List UInt8) → Int := fun j => if j = k then x else c j
set_option maxHeartbeats 2000000 in
set_option maxRecDepth 100000 in
theorem of' {w : World} {tb b : Nat} {c : (List UInt8) → Int} {n : Nat} (h : Tl w tb b c n) (k : (List UInt8)) (wf : k.length ≤ maxLen) :
    Calls Try.prog 19 #[.pointer (some ⟨tb, 0, none⟩), (encStr k)] w fun e w' => e = .returned (.int .i64 (c k)) ∧ w' = w := by
  obtain ⟨D, hown, hat⟩ := h.map
  have hc := hat k wf
  have hkey : keyOf Try.prog 9 (encStr k) = some (.string k) := hkeyS wf
  have c0 : w.cell? ⟨tb, 0, none⟩ = some (.map (some b)) := (blk_cell h.box 0).trans rfl
  clear hat
  go_enter Try.func19, Try.ntmps19
  go_wp2_with (first
    | (at_lookup; refine wpList_lookup_own_int _ rfl _ _ 54 rfl 9 3 .i64 law Try.underlying54 Try.underlying3 (zero3 _) b n D rfl hown _ _ rfl hkey ?_; intro c hat hwc; have hcc : zd = .lit (.int .i64 0) := rfl; rw [← hcc, hc] at hat; cases hat)
    | fail)
  go_ret
  exact ⟨rfl, rfl⟩
theorem ofNil (w : World) (k : (List UInt8)) : Calls Try.prog 19 #[.pointer none, (encStr k)] w fun e w' => e = .returned (.int .i64 0) ∧ w' = w := by
  go_enter Try.func19, Try.ntmps19
  go_wp2_with fail
  go_ret
  exact ⟨rfl, rfl⟩
theorem addNil (w : World) (k : (List UInt8)) (x : Int) : Calls Try.prog 18 #[.pointer none, (encStr k), .int .i64 x] w fun e w' => e = .returned (.int .i64 0) ∧ w' = w := by
  go_enter Try.func18, Try.ntmps18
  go_wp2_with fail
  go_ret
  exact ⟨rfl, rfl⟩
theorem wrapS (x : Int) (h0 : -9223372036854775808 ≤ x) (h1 : x ≤ 9223372036854775807) : wrap64 x = x := by unfold wrap64; omega
theorem wf_rng {x : Int} (h : (Lit.int .i64 x).wf = true) : -9223372036854775808 ≤ x ∧ x ≤ 9223372036854775807 := by
  simp [Lit.wf, IntKind.min, IntKind.max, IntKind.bits, IntKind.signed] at h
  omega
theorem rng_wf {x : Int} (h0 : -9223372036854775808 ≤ x) (h1 : x ≤ 9223372036854775807) : (Lit.int .i64 x).wf = true := by
  simp [Lit.wf, IntKind.min, IntKind.max, IntKind.bits, IntKind.signed]
  omega
set_option maxHeartbeats 2000000 in
set_option maxRecDepth 100000 in
theorem add {w : World} {tb b : Nat} {c : (List UInt8) → Int} {n : Nat} (h : Tl w tb b c n) (hn : n ≤ 1000000) (k : (List UInt8)) (wf : k.length ≤ maxLen) (x : Int) (wx : (Lit.int .i64 x).wf = true) :
    Calls Try.prog 18 #[.pointer (some ⟨tb, 0, none⟩), (encStr k), .int .i64 x] w fun e w' => e = .returned (.int .i64 (addZ (c k) x)) ∧ Tl w' tb b (updZ c k (addZ (c k) x)) (n + 1) ∧ w.grownBy w' (some b) := by
  obtain ⟨D, hown, hat0⟩ := h.map
  have hc := hat0 k wf
  have hkey : keyOf Try.prog 9 (encStr k) = some (.string k) := hkeyS wf
  have c0 : w.cell? ⟨tb, 0, none⟩ = some (.map (some b)) := (blk_cell h.box 0).trans rfl
  obtain ⟨r0, r1⟩ := h.rng k
  have rr := addZ_rng (c k) x
  obtain ⟨w0, w1⟩ := wf_rng wx
  have HAT := Aside0.mk hat0
  have HT := Aside0.mk h
  obtain ⟨ck, hck⟩ : ∃ z, c k = z := ⟨_, rfl⟩
  rw [hck] at hc r0 r1 rr ⊢
  have HCK := Aside0.mk hck
  obtain ⟨m, hm⟩ : ∃ m, mn x 1099511627776 = m := ⟨_, rfl⟩
  have m1 : m ≤ x ∨ m = 1099511627776 := by rw [← hm]; unfold mn; split <;> omega
  have m2 : m ≤ 1099511627776 := by rw [← hm]; unfold mn; split <;> omega
  have m3 : -9223372036854775808 ≤ m := by rw [← hm]; unfold mn; split <;> omega
  have e2 : wrap64 (ck + m) = ck + m := wrapS _ (by omega) (by omega)
  have e0 : addZ ck x = mn (if ck + m < 0 then 0 else ck + m) 1099511627776 := by unfold addZ; rw [hm]
  have e1 : (if (1099511627776 : Int) < x then 1099511627776 else x) = m := hm
  obtain ⟨s, hs⟩ : ∃ s, ck + m = s := ⟨_, rfl⟩
  rw [hs] at e0 e2
  obtain ⟨t, ht⟩ : ∃ t, (if s < 0 then 0 else s) = t := ⟨_, rfl⟩
  rw [ht] at e0
  obtain ⟨r, hr⟩ : ∃ r, addZ ck x = r := ⟨_, rfl⟩
  rw [hr] at e0 rr ⊢
  have e3 : (if (1099511627776 : Int) < t then 1099511627776 else t) = r := e0.symm
  have WFR := Aside0.mk (rng_wf (x := r) (by omega) (by omega))
  have HRR := Aside0.mk rr
  have HN := Aside0.mk hn
  clear hat0 h hck hm m1 m2 m3 r0 r1 rr w0 w1 hr e0 hn wx
  go_enter Try.func18, Try.ntmps18
  go_wp2_with (first
    | (at_lookup; refine wpList_lookup_own_int _ rfl _ _ 54 rfl 9 3 .i64 law Try.underlying54 Try.underlying3 (zero3 _) b n D rfl hown _ _ rfl hkey ?_; intro c2 hat hwc; have hcc : zd = .lit (.int .i64 0) := rfl; rw [← hcc, hc] at hat; cases hat; clear hcc hwc)
    | (at_mapUpdate; refine wpList_mapUpdate_own _ rfl _ _ _ 54 rfl 9 3 law Try.underlying54 _ b n D rfl hown (by have := HN.out; unfold maxLen; omega) _ _ _ rfl rfl hkey _ [] (plainElem_int Try.underlying3 (a := r) WFR.out) ?_; intro w1 hown1 hgrow1; have HO := Aside0.mk hown1; have HG := Aside0.mk hgrow1; clear hown1 hgrow1)
    | fail)
  go_ret
  have hT := HT.out
  refine ⟨rfl, ⟨(HG.out.block _ hT.lt.1 (by simpa using hT.ne)).trans hT.box, ⟨_, HO.out, fun k' wf' => ?_⟩, fun j => ?_⟩, HG.out⟩
  · unfold updZ
    by_cases e : k' = k
    · rw [if_pos e, e]
      exact atKey_put_same (k := (.string k)) (hown.tidy law).isMap (show WideAt.IsKeyLit (.string k) from trivial) _ _
    · rw [if_neg e, atKey_put_other (fun e2 => e (by injection e2))]
      exact HAT.out k' wf'
  · unfold updZ
    split
    · exact HRR.out
    · exact hT.rng j
end Go.Proofs.Ythnicdafglohbaa.Ls
