import Derived.Test.YtkncmbbkehnagaaZb2
import Derived.Test.YtkncmbbkehnagaaProg
import Derived.Lib.Hide
import Derived.Test.YtkncmbbkehnagaaZWMore
import Derived.Stop.RegionWithIn
import Derived.Below
import Derived.Deep.Draws
import Derived.Deep.AppendLies
import Derived.Maps.AppendAt
import Derived.OwnWalk
import Derived.Laws.BytesArg
import Derived.Laws.MakeOwn
import Derived.Laws.OwnMore
import Derived.Deep.OwnRows
import Derived.Tactics
import Derived.Lib.ConvBytes
import Derived.Laws.Slices
import Derived.WalkKit
import Derived.KernelRfl
import Derived.RowKit3
import Derived.Deep.LoopGhost
import Derived.Deep.QuietTactic
import Derived.BigQuiet
import Derived.WideLaws
import Derived.Deep.DeepCutAuto
import Derived.Deep.CutBlock
import Derived.Deep.RegionHeld3
import Derived.Laws.Rows
import Derived.Lib.AppendStr
import Derived.ArgAppend
import Derived.Laws.IdiomCopy
import Derived.OrdersHeld
import Derived.Laws.BitsLemmas
import Derived.RowKit
import Derived.Test.YtkncmbbkehnagaaZWWords
import Derived.Test.YtkncmbbkehnagaaZWLast
import Derived.Test.YtkncmbbkehnagaaZWTab
import Derived.Test.YtkncmbbkehnagaaZWFour
import Derived.Test.YtkncmbbkehnagaaZWQPut
import Derived.Test.YtkncmbbkehnagaaZWApart
import Derived.Test.YtkncmbbkehnagaaZWArr
import Derived.Test.YtkncmbbkehnagaaZWZeros
import Derived.Test.YtkncmbbkehnagaaZWFoot
import Derived.Test.YtkncmbbkehnagaaZWKept
import Derived.Test.YtkncmbbkehnagaaZWShare
import Derived.Test.YtkncmbbkehnagaaZWN
import Derived.Test.YtkncmbbkehnagaaZWFootNe
import Derived.Test.YtkncmbbkehnagaaZWAt
import Derived.Test.YtkncmbbkehnagaaZWEqStruct
import Derived.Test.YtkncmbbkehnagaaZWRepsOne
import Derived.Test.YtkncmbbkehnagaaZWInv
import Derived.Test.YtkncmbbkehnagaaZWInvWords
import Derived.Test.YtkncmbbkehnagaaZWGuard
import Derived.Test.YtkncmbbkehnagaaZWNEv
import Derived.Lib.AppendZerosOnto
import Derived.Lib.SliceRun
import Derived.Lib.Walk
set_option linter.unusedVariables false
set_option linter.unusedSimpArgs false
/-! The chip's Blocks: a row of blocks of the call's own. -/
namespace Go.Proofs.Ytkncmbbkehnagaa.Cm
open Go.RowKit Go.Proofs.YtkncmbbkehnagaaW.PrintWords Go.Proofs.YtkncmbbkehnagaaW.PrintLast Go.Proofs.YtkncmbbkehnagaaW.PrintMore Go.Proofs.Ytkncmbbkehnagaa.Kp Go.Proofs.Ytkncmbbkehnagaa.Cp
attribute [local go_sem] max2_int min2_int max_two min_two max_three min_three max_four min_four

/-- A block as it lies in a row; its pages: where they lie. -/
structure FB where
  bad : Bool
  next : Int
  count : Int
  pg : Sl
def kF : Kd FB := Kd.iso (Kd.pair Kd.bool (Kd.pair (Kd.int .i64) (Kd.pair (Kd.int .i64) (Kd.scalar encS (fun _ => rfl))))) (fun x : FB => (x.bad, x.next, x.count, x.pg))
def zF : FB := ⟨false, 0, 0, (none, 0, 0)⟩
theorem kF_open {w : World} {x : FB} {cs : List Value} (h : kF.K w x cs) : cs = [.bool x.bad, .int .i64 x.next, .int .i64 x.count, encS x.pg] := by
  obtain ⟨_, _, rfl, rfl, ⟨_, _, rfl, rfl, ⟨_, _, rfl, rfl, rfl⟩⟩⟩ := h
  rfl
theorem kF_mkM (w : World) (base : Nat) (ok : Nat → Prop) (x : FB) : kF.M w base ok x [.bool x.bad, .int .i64 x.next, .int .i64 x.count, encS x.pg] :=
  ⟨[.bool x.bad], [.int .i64 x.next, .int .i64 x.count, encS x.pg], rfl, rfl, ⟨[.int .i64 x.next], [.int .i64 x.count, encS x.pg], rfl, rfl, ⟨[.int .i64 x.count], [encS x.pg], rfl, rfl, rfl⟩⟩⟩
theorem fbAt {w : World} {A : Option Addr} {n : Nat} {xs : List FB} (h : Kd.C kF w A n xs) (i : Nat) (hi : i < n) : ∃ ad, A = some ad ∧ w.cell? (ad.add (i * 4)) = some (.bool (xs.getD i zF).bad) ∧ w.cell? ⟨(ad.add (i * 4)).block, (ad.add (i * 4)).off + 1, none⟩ = some (.int .i64 (xs.getD i zF).next) ∧
    w.cell? ⟨(ad.add (i * 4)).block, (ad.add (i * 4)).off + 2, none⟩ = some (.int .i64 (xs.getD i zF).count) ∧ w.cell? ⟨(ad.add (i * 4)).block, (ad.add (i * 4)).off + 3, none⟩ = some (.slice (xs.getD i zF).pg.1 (xs.getD i zF).pg.2.1 (xs.getD i zF).pg.2.2) := by
  obtain ⟨ad, c, e, _, hK, hc0⟩ := Kd.C_get h zF (i : Int) (by omega) (by omega)
  have hc : ∀ j u, c[j]? = some u → w.cell? (ad.add (i * 4 + j)) = some u := hc0
  have hcs := kF_open hK
  have hK' : c = [.bool (xs.getD i zF).bad, .int .i64 (xs.getD i zF).next, .int .i64 (xs.getD i zF).count, .slice (xs.getD i zF).pg.1 (xs.getD i zF).pg.2.1 (xs.getD i zF).pg.2.2] := hcs
  subst hK'
  exact ⟨ad, e, hc 0 _ rfl, by rw [← add_field _ _ 1 (by omega)]; exact hc 1 _ rfl, by rw [← add_field _ _ 2 (by omega)]; exact hc 2 _ rfl, by rw [← add_field _ _ 3 (by omega)]; exact hc 3 _ rfl⟩
theorem cell_same {w w1 : World} {a : Addr} (h : w1.heap[a.block]? = w.heap[a.block]?) : w1.cell? a = w.cell? a := by
  unfold World.cell?
  rw [h]
theorem cell_lt {w : World} {a : Addr} {v : Value} (h : w.cell? a = some v) : a.block < w.heap.size := by
  rcases Nat.lt_or_ge a.block w.heap.size with h1 | h1
  · exact h1
  · unfold World.cell? at h
    rw [Array.getElem?_eq_none h1] at h
    simp at h
theorem add_blk (ad : Addr) (j : Nat) : (ad.add j).block = ad.block := by unfold Addr.add; split <;> rfl
theorem cell_ltA {w : World} {ad : Addr} {j : Nat} {v : Value} (h : w.cell? (ad.add j) = some v) : ad.block < w.heap.size := by
  have h1 := cell_lt h
  rwa [add_blk] at h1
theorem cell_sameA {w w1 : World} {ad : Addr} {j : Nat} (h : w1.heap[ad.block]? = w.heap[ad.block]?) : w1.cell? (ad.add j) = w.cell? (ad.add j) := cell_same (by rw [add_blk]; exact h)
/-- Pages that lie in the blocks from lo to hi. -/
def PgIn (W : World) (lo hi : Nat) (pv : Value) (l : List (List Int)) : Prop :=
  ∃ A c, pv = .slice A l.length c ∧ l.length ≤ c ∧ ∀ j xs, l[j]? = some xs → ∃ ad v, A = some ad ∧ lo ≤ ad.block ∧ ad.block < hi ∧ W.cell? (ad.add j) = some v ∧ Kd.R (Kd.int .u8) 5 W lo (fun k => lo ≤ k ∧ k < hi) v xs
theorem PgIn.of {W : World} {lo : Nat} {pv : Value} {l : List (List Int)} (h : Pgs W lo pv l) : PgIn W lo W.heap.size pv l := by
  obtain ⟨A, c, h1, h2, h3⟩ := h
  refine ⟨A, c, h1, h2, fun j xs hj => ?_⟩
  obtain ⟨ad, v, q1, q2, q3, q4⟩ := h3 j xs hj
  exact ⟨ad, v, q1, q2, cell_ltA q3, q3, Kd.R_mono (Kd.R_bound q4) (fun k hk => ⟨hk.2.1, hk.2.2.1⟩)⟩
theorem PgIn.step {W W1 : World} {lo hi : Nat} {pv : Value} {l : List (List Int)} (h : PgIn W lo hi pv l) (hk : ∀ k, lo ≤ k → k < hi → W1.heap[k]? = W.heap[k]?) : PgIn W1 lo hi pv l := by
  obtain ⟨A, c, h1, h2, h3⟩ := h
  refine ⟨A, c, h1, h2, fun j xs hj => ?_⟩
  obtain ⟨ad, v, q1, q2, q3, q4, q5⟩ := h3 j xs hj
  exact ⟨ad, v, q1, q2, q3, (cell_sameA (hk _ q2 q3)).trans q4, Kd.R_step q5 (fun k ho _ => hk k ho.1 ho.2)⟩
theorem PgIn.pgs {W : World} {lo hi b : Nat} {pv : Value} {l : List (List Int)} (h : PgIn W lo hi pv l) (hb : b ≤ lo) : Pgs W b pv l := by
  obtain ⟨A, c, h1, h2, h3⟩ := h
  refine ⟨A, c, h1, h2, fun j xs hj => ?_⟩
  obtain ⟨ad, v, q1, q2, q3, q4, q5⟩ := h3 j xs hj
  exact ⟨ad, v, q1, Nat.le_trans hb q2, q4, Kd.R_lower (Kd.R_mono q5 (fun _ _ => trivial)) hb⟩
/-- k of the blocks stand in the row. -/
structure FBi (W : World) (b0 : Nat) (v : Value) (bs : List Blk) (k : Nat) (l : List FB) : Prop where
  len : l.length = k
  at_ : ∀ (i : Nat) (B : Blk), i < k → bs[i]? = some B → ∃ p lo hi, l[i]? = some ⟨B.bad, B.next, B.count, p⟩ ∧ PgIn W lo hi (encS p) B.pages ∧ b0 ≤ lo ∧ hi ≤ W.heap.size ∧ ∀ q, v.ownBlock = some q → q < lo ∨ hi ≤ q
theorem FBi.step {W W1 : World} {b0 : Nat} {v v1 : Value} {bs : List Blk} {k : Nat} {l : List FB} (h : FBi W b0 v bs k l) (hg : ∀ q, q < W.heap.size → v.ownBlock ≠ some q → W1.heap[q]? = W.heap[q]?) (hs : W.heap.size ≤ W1.heap.size) (hv : v1.ownBlock = v.ownBlock ∨ ∃ q, v1.ownBlock = some q ∧ W.heap.size ≤ q)
    {B : Blk} {p : Sl} {lo : Nat} (hB : bs[k]? = some B) (hp : PgIn W lo W.heap.size (encS p) B.pages) (hlo : b0 ≤ lo) (hov : ∀ q, v.ownBlock = some q → q < lo) : FBi W1 b0 v1 bs (k + 1) (l ++ [⟨B.bad, B.next, B.count, p⟩]) := by
  refine ⟨by rw [List.length_append, h.len]; rfl, fun i C hi hC => ?_⟩
  rcases Nat.lt_or_ge i k with hik | hik
  · obtain ⟨p', lo', hi', e1, e2, e3, e4, e5⟩ := h.at_ i C hik hC
    refine ⟨p', lo', hi', by rw [List.getElem?_append_left (by rw [h.len]; exact hik)]; exact e1, e2.step (fun q h1 h2 => hg q (by omega) (fun e => by rcases e5 q e with h3 | h3 <;> omega)), e3, by omega, fun q hq => ?_⟩
    rcases hv with hv | ⟨q', hv, hq'⟩
    · exact e5 q (hv ▸ hq)
    · rw [hv] at hq
      injection hq with hq
      omega
  · obtain rfl : i = k := by omega
    obtain rfl : B = C := by rw [hB] at hC; exact Option.some.inj hC
    refine ⟨p, lo, W.heap.size, by rw [List.getElem?_append_right (by rw [h.len]; exact Nat.le_refl _), h.len, Nat.sub_self]; rfl, hp.step (fun q h1 h2 => hg q h2 (fun e => by have := hov q e; omega)), hlo, hs, fun q hq => ?_⟩
    rcases hv with hv | ⟨q', hv, hq'⟩
    · exact .inl (hov q (hv ▸ hq))
    · rw [hv] at hq
      injection hq with hq
      omega
theorem FBi.keep {W W1 : World} {b0 : Nat} {v : Value} {bs : List Blk} {k : Nat} {l : List FB} (h : FBi W b0 v bs k l) (hb : Below W.heap.size W W1) : FBi W1 b0 v bs k l := ⟨h.len, fun i B hi hB => by
  obtain ⟨p, lo, hi', e1, e2, e3, e4, e5⟩ := h.at_ i B hi hB
  exact ⟨p, lo, hi', e1, e2.step (fun q h1 h2 => hb.block q (by omega)), e3, Nat.le_trans e4 hb.size, e5⟩⟩
/-- What Blocks makes. -/
def FBs (W : World) (b0 : Nat) (bs : List Blk) (l : List FB) : Prop := l.length = bs.length ∧ ∀ (i : Nat) (B : Blk), bs[i]? = some B → ∃ p, l[i]? = some ⟨B.bad, B.next, B.count, p⟩ ∧ Pgs W b0 (encS p) B.pages
set_option maxHeartbeats 4000000 in
set_option maxRecDepth 100000 in
theorem blocks {w : World} {base : Nat} {S : Nat → Prop} {g : Nat} {s : Chp} (h : Hd w base S g s) (hx : ∀ B ∈ s.blocks, ∀ xs ∈ B.pages, xs.length ≤ 100000) :
    Calls Try.prog 31 #[.pointer (some ⟨g, 0, none⟩)] w fun e w' => ∃ v l, e = .returned v ∧ Kd.R kF 79 w' w.heap.size (fun _ => True) v l ∧ FBs w' w.heap.size s.blocks l ∧ Hd w' base S g s ∧ Below w.heap.size w w' := by
  have HH0 := Aside0.mk h
  have HX := Aside0.mk hx
  obtain ⟨hh, cap, cs, pg, r⟩ := h.chip
  obtain ⟨⟨c0, -⟩, -, -⟩ := ten r
  have HN := Aside0.mk r.inv.n2
  have C0 := Aside0.mk c0
  clear r hx h
  go_enter Try.func31, Try.ntmps31
  go_wp2_with fail
  clear c0
  go_loopw [3, 12] (fun v3 v12 wr => ∃ (k : Nat) (l : List FB), k ≤ s.blocks.length ∧ v12 = .int .i64 (k : Int) ∧ Aside0 (Kd.R kF 79 wr w.heap.size (fun _ => True) v3 l) ∧ Aside0 (FBi wr w.heap.size v3 s.blocks k l) ∧ Aside0 (Below w.heap.size w wr)) (fun _ v12 _ => s.blocks.length - (intOf v12).toNat)
  case atStart => exact ⟨0, [], Nat.zero_le _, rfl, ⟨Kd.R_nil _ _ _ _ _⟩, ⟨⟨rfl, fun i B hi => absurd hi (Nat.not_lt_zero _)⟩⟩, ⟨Below.refl _ _⟩⟩
  case round =>
    obtain ⟨k, l, hk, rfl, HR, HF, HB⟩ := hrel
    have HH := Aside0.mk (HH0.out.below HB.out)
    by_cases hlt : k < s.blocks.length
    · have hlt2 : (k : Int) < (s.blocks.length : Int) := by omega
      have HLT := Aside0.mk hlt
      have hw2 : wrap64 ((k : Int) + 1) = ((k + 1 : Nat) : Int) := by rw [show (k : Int) + 1 = ((k + 1 : Nat) : Int) by omega]; exact wrap_small _ (by omega) (by have := HN.out; omega)
      obtain ⟨B, hB⟩ : ∃ B, s.blocks[k]? = some B := ⟨_, List.getElem?_eq_getElem hlt⟩
      have hbb : blockB s (k : Int) = B := by
        unfold blockB hasB
        rw [decide_eq_true (show (0 : Int) ≤ k by omega), decide_eq_true hlt2, Bool.and_self, if_pos rfl]
        show (s.blocks[k]?).getD noB = B
        rw [hB]
        rfl
      have HBB := Aside0.mk hbb
      have HBK := Aside0.mk hB
      have HXB := Aside0.mk (HX.out B (List.mem_of_getElem? hB))
      clear hlt hk hB hbb
      go_wp2_with fail
      refine (blockH HH.out (k : Int) (by rw [HBB.out]; exact HXB.out)).mono ?_
      rintro ev w3 ⟨v3, rfl, hv3, -, hb3⟩
      rw [HBB.out] at hv3
      obtain ⟨pv, rfl, hpg⟩ := hv3
      obtain ⟨A3, c3, rfl, -, -⟩ := id hpg
      have HPG := Aside0.mk (PgIn.of hpg)
      have HB3 := Aside0.mk (below_step HB.out hb3)
      have HR3 := Aside0.mk (Kd.R_below HR.out hb3)
      have HF3 := Aside0.mk (HF.out.keep hb3)
      have HOW := Aside0.mk (fun q hq => ((Kd.R_bound HR.out).1 q hq).2.2.1)
      have HSZ := Aside0.mk hb3.size
      obtain ⟨p, hp⟩ : ∃ p : Sl, (A3, B.pages.length, c3) = p := ⟨_, rfl⟩
      have HP := Aside0.mk hp
      clear hpg hb3 HR HF hp
      go_wp2_with ((with_reducible refine gate_builtin (b := .append) (xs := #[.tmp 15, .tmp 19]) rfl ?_); at_builtin; refine Kd.R_append kF (w0 := w) w.heap.size rfl (.tmp 15) (.tmp 19) 70 79 (.agg #[.bool false, .int .i64 0, .int .i64 0, .slice none 0 0]) 48 rfl Try.underlying70 (by kernel_rfl) rfl (by decide) (by omega) _ l ⟨B.bad, B.next, B.count, (A3, B.pages.length, c3)⟩ [.bool B.bad, .int .i64 B.next, .int .i64 B.count, .slice A3 B.pages.length c3] (fun _ => True) (fun _ => False) rfl rfl (kF_mkM _ _ _ _) (fun _ hk => hk.elim) (fun _ _ => trivial) HR3.out HB3.out HB3.out.size ?aL ?_; (case aL => have h1 := HF3.out.len; have h2 := HLT.out; have h3 := HN.out; rw [h1]; omega); intro v1 w1 ho hb1 hg1 hat1; have HO := Aside0.mk ho; have HB1 := Aside0.mk hb1; have HG1 := Aside0.mk hg1; have HAT := Aside0.mk hat1; clear ho hb1 hg1 hat1)
      go_roundw
      case measure =>
        have hm : s.blocks.length - ((k + 1 : Nat) : Int).toNat < s.blocks.length - ((k : Nat) : Int).toNat := by
          rw [Int.toNat_natCast, Int.toNat_natCast]
          exact Nat.sub_lt_sub_left HLT.out (Nat.lt_succ_self k)
        first | exact hm | (rw [hw2]; exact hm)
      case rel => exact ⟨k + 1, _, HLT.out, by first | rw [hw2] | rfl, HO, ⟨HF3.out.step (fun q hq hn => HG1.out.block q hq (fun e => hn e.symm)) HG1.out.size HAT.out HBK.out HPG.out HB.out.size HOW.out⟩, HB1⟩
    · have he : k = s.blocks.length := by omega
      subst he
      have hn : ¬ (((s.blocks.length : Nat) : Int) < (s.blocks.length : Int)) := by omega
      clear hlt hk
      go_wp2_with fail
      go_ret
      refine ⟨_, rfl, l, HR.out, ⟨HF.out.len, fun i B hB => by
        obtain ⟨p, lo, hi, e1, e2, e3, -, -⟩ := HF.out.at_ i B (List.getElem?_eq_some_iff.1 hB).1 hB
        exact ⟨p, e1, e2.pgs e3⟩⟩, HH.out, HB.out⟩
end Go.Proofs.Ytkncmbbkehnagaa.Cm

set_option linter.unusedVariables false
set_option linter.unusedSimpArgs false
/-! A scan as it lies in memory; what it tells without reading. -/
namespace Go.Proofs.Ytkncmbbkehnagaa.Cm
open Go.RowKit Go.Proofs.YtkncmbbkehnagaaW.PrintWords Go.Proofs.YtkncmbbkehnagaaW.PrintLast Go.Proofs.YtkncmbbkehnagaaW.PrintMore Go.Proofs.Ytkncmbbkehnagaa.Kp Go.Proofs.Ytkncmbbkehnagaa.Cp
attribute [local go_sem] max2_int min2_int max_two min_two max_three min_three max_four min_four

/-- A scan's four cells. -/
def scCells (g : Nat) (vs vf vh : Value) : Array Value := #[.pointer (some ⟨g, 0, none⟩), vs, vf, vh]
theorem scAt {W : World} {q g : Nat} {vs vf vh : Value} (h : W.heap[q]? = some (.cells (scCells g vs vf vh) 87 (0, 0))) : W.cell? ⟨q, 0, none⟩ = some (.pointer (some ⟨g, 0, none⟩)) ∧ W.cell? ⟨q, 1, none⟩ = some vs ∧ W.cell? ⟨q, 2, none⟩ = some vf ∧ W.cell? ⟨q, 3, none⟩ = some vh :=
  ⟨(blk_cell h 0).trans rfl, (blk_cell h 1).trans rfl, (blk_cell h 2).trans rfl, (blk_cell h 3).trans rfl⟩
set_option maxHeartbeats 2000000 in
set_option maxRecDepth 100000 in
theorem over {W : World} {q g n c : Nat} {A : Option Addr} {vf vh : Value} (h : W.heap[q]? = some (.cells (scCells g (.slice A n c) vf vh) 87 (0, 0))) :
    Calls Try.prog 35 #[.pointer (some ⟨q, 0, none⟩)] W fun e w' => e = .returned (.bool (decide (n = 0))) ∧ w' = W := by
  obtain ⟨-, c1, -, -⟩ := scAt h
  clear h
  by_cases hn : n = 0
  · subst hn
    go_enter Try.func35, Try.ntmps35
    go_wp2
    go_ret
    exact ⟨rfl, rfl⟩
  · have d1 : ((n : Int) == 0) = false := beq_eq_false_iff_ne.2 (by omega)
    have d2 : (n == 0) = false := beq_eq_false_iff_ne.2 hn
    have d3 : decide (n = 0) = false := decide_eq_false hn
    rw [d3]
    clear hn
    go_enter Try.func35, Try.ntmps35
    go_wp2
    go_ret
    exact ⟨rfl, rfl⟩
end Go.Proofs.Ytkncmbbkehnagaa.Cm

set_option linter.unusedVariables false
set_option linter.unusedSimpArgs false
/-! What was found, as it lies; Seq. -/
namespace Go.Proofs.Ytkncmbbkehnagaa.Cm
open Go.RowKit Go.Proofs.YtkncmbbkehnagaaW.PrintWords Go.Proofs.YtkncmbbkehnagaaW.PrintLast Go.Proofs.YtkncmbbkehnagaaW.PrintMore Go.Proofs.Ytkncmbbkehnagaa.Kp Go.Proofs.Ytkncmbbkehnagaa.Cp
attribute [local go_sem] max2_int min2_int max_two min_two max_three min_three max_four min_four

/-- What was found: a page's number, a writing's number; the block, the page. -/
structure FD where
  p : Int
  q : Int
  b : Int
  k : Int
def kFD : Kd FD := Kd.iso (Kd.pair (Kd.int .i64) (Kd.pair (Kd.int .i64) (Kd.pair (Kd.int .i64) (Kd.int .i64)))) (fun x : FD => (x.p, x.q, x.b, x.k))
def zFD : FD := ⟨0, 0, 0, 0⟩
theorem fdOpen {w : World} {x : FD} {cs : List Value} (h : kFD.K w x cs) : cs = [.int .i64 x.p, .int .i64 x.q, .int .i64 x.b, .int .i64 x.k] := by
  obtain ⟨_, _, rfl, rfl, ⟨_, _, rfl, rfl, ⟨_, _, rfl, rfl, rfl⟩⟩⟩ := h
  rfl
theorem fdAt {w : World} {A : Option Addr} {n : Nat} {xs : List FD} (h : Kd.C kFD w A n xs) (i : Nat) (hi : i < n) : ∃ ad, A = some ad ∧ w.cell? (ad.add (i * 4)) = some (.int .i64 (xs.getD i zFD).p) ∧ w.cell? ⟨(ad.add (i * 4)).block, (ad.add (i * 4)).off + 1, none⟩ = some (.int .i64 (xs.getD i zFD).q) ∧
    w.cell? ⟨(ad.add (i * 4)).block, (ad.add (i * 4)).off + 2, none⟩ = some (.int .i64 (xs.getD i zFD).b) ∧ w.cell? ⟨(ad.add (i * 4)).block, (ad.add (i * 4)).off + 3, none⟩ = some (.int .i64 (xs.getD i zFD).k) := by
  obtain ⟨ad, c, e, _, hK, hc0⟩ := Kd.C_get h zFD (i : Int) (by omega) (by omega)
  have hc : ∀ j u, c[j]? = some u → w.cell? (ad.add (i * 4 + j)) = some u := hc0
  have hK' := fdOpen hK
  have hK2 : c = [.int .i64 (xs.getD i zFD).p, .int .i64 (xs.getD i zFD).q, .int .i64 (xs.getD i zFD).b, .int .i64 (xs.getD i zFD).k] := hK'
  subst hK2
  exact ⟨ad, e, hc 0 _ rfl, by rw [← add_field _ _ 1 (by omega)]; exact hc 1 _ rfl, by rw [← add_field _ _ 2 (by omega)]; exact hc 2 _ rfl, by rw [← add_field _ _ 3 (by omega)]; exact hc 3 _ rfl⟩
def mostQ (l : List FD) : Int := l.foldl (fun m x => if m < x.q then x.q else m) 0
theorem mostQ_snoc (l : List FD) (i : Nat) (hi : i < l.length) : mostQ (l.take (i + 1)) = if mostQ (l.take i) < (l.getD i zFD).q then (l.getD i zFD).q else mostQ (l.take i) := by
  unfold mostQ
  rw [List.take_succ_eq_append_getElem hi, List.foldl_append, List.getD_eq_getElem?_getD, List.getElem?_eq_getElem hi]
  rfl
set_option maxHeartbeats 4000000 in
set_option maxRecDepth 100000 in
theorem mseq {W : World} {q g n c cf : Nat} {A F : Option Addr} {vh : Value} {fs : List FD} (h : W.heap[q]? = some (.cells (scCells g (.slice A n c) (.slice F fs.length cf) vh) 87 (0, 0))) (hC : Kd.C kFD W F fs.length fs) (hl : fs.length ≤ 100000) :
    Calls Try.prog 18 #[.pointer (some ⟨q, 0, none⟩)] W fun e w' => e = .returned (.int .i64 (if n = 0 then mostQ fs else 0)) ∧ Below W.heap.size W w' := by
  have HC := Aside0.mk hC
  have HL := Aside0.mk hl
  have HQ := Aside0.mk h
  clear h hC hl
  by_cases hn : n = 0
  · rw [if_pos hn]
    have hov := over HQ.out
    rw [decide_eq_true hn] at hov
    have HOV := Aside0.mk hov
    clear hov hn
    go_enter Try.func18, Try.ntmps18
    go_wp2_with fail
    refine HOV.out.mono ?_
    rintro ev w1 ⟨rfl, rfl⟩
    obtain ⟨-, -, c2, -⟩ := scAt HQ.out
    go_wp2_with fail
    clear c2
    go_loopw [3, 13] (fun v3 v13 wr => ∃ i : Nat, i ≤ fs.length ∧ v3 = .int .i64 (mostQ (fs.take i)) ∧ v13 = .int .i64 (i : Int) ∧ Aside0 (Below w1.heap.size w1 wr)) (fun _ v13 _ => fs.length - (intOf v13).toNat)
    case atStart => exact ⟨0, Nat.zero_le _, rfl, rfl, ⟨Below.refl _ _⟩⟩
    case round =>
      obtain ⟨i, hi, rfl, rfl, HB⟩ := hrel
      by_cases hlt : i < fs.length
      · have hlt2 : (i : Int) < (fs.length : Int) := by omega
        have HLT := Aside0.mk hlt
        have hw3 : wrap64 ((i : Int) + 1) = ((i + 1 : Nat) : Int) := by rw [show (i : Int) + 1 = ((i + 1 : Nat) : Int) by omega]; exact wrap_small _ (by omega) (by have := HL.out; omega)
        have hms := mostQ_snoc fs i hlt
        obtain ⟨ad, rfl, x0, x1, x2, x3⟩ := fdAt (Kd.C_below HC.out HB.out) i hlt
        obtain ⟨d, hd⟩ : ∃ d, fs.getD i zFD = d := ⟨_, rfl⟩
        rw [hd] at x0 x1 x2 x3 hms
        obtain ⟨m, hm⟩ : ∃ m, mostQ (fs.take i) = m := ⟨_, rfl⟩
        rw [hm] at hms ⊢
        obtain ⟨m', hm'⟩ : ∃ m', mostQ (fs.take (i + 1)) = m' := ⟨_, rfl⟩
        rw [hm'] at hms
        have HM' := Aside0.mk hm'
        have hmx := hms.symm
        have HW3 := Aside0.mk hw3
        clear hd hm hm' hms hi hlt
        go_wp2_with fail
        go_roundw
        case measure =>
          have hm : fs.length - ((i + 1 : Nat) : Int).toNat < fs.length - ((i : Nat) : Int).toNat := by
            rw [Int.toNat_natCast, Int.toNat_natCast]
            exact Nat.sub_lt_sub_left HLT.out (Nat.lt_succ_self i)
          first | exact hm | (rw [hw3]; exact hm)
        case rel => exact ⟨i + 1, HLT.out, by rw [HM'.out], by first | rw [hw3] | rfl, ⟨below_alloc HB.out _⟩⟩
      · have he : i = fs.length := by omega
        have hnn : ¬ ((i : Int) < (fs.length : Int)) := by omega
        have HE := Aside0.mk he
        clear hlt hi he
        go_wp2_with fail
        go_ret
        exact ⟨by rw [HE.out, List.take_length]; rfl, HB.out⟩
  · rw [if_neg hn]
    have hov := over HQ.out
    rw [decide_eq_false hn] at hov
    have HOV := Aside0.mk hov
    clear hov hn
    go_enter Try.func18, Try.ntmps18
    go_wp2_with fail
    refine HOV.out.mono ?_
    rintro ev w1 ⟨rfl, rfl⟩
    go_wp2_with fail
    go_ret
    exact ⟨rfl, Below.refl _ _⟩
end Go.Proofs.Ytkncmbbkehnagaa.Cm

set_option linter.unusedVariables false
set_option linter.unusedSimpArgs false
/-! Found. -/
namespace Go.Proofs.Ytkncmbbkehnagaa.Cm
open Go.RowKit Go.Proofs.YtkncmbbkehnagaaW.PrintWords Go.Proofs.YtkncmbbkehnagaaW.PrintLast Go.Proofs.YtkncmbbkehnagaaW.PrintMore Go.Proofs.Ytkncmbbkehnagaa.Kp Go.Proofs.Ytkncmbbkehnagaa.Cp

theorem infoF : (Try.prog.info? 49).map (fun i => (i.zero, i.size, i.bytes)) = some (some (.agg #[.int .i64 0, .int .i64 0, .int .i64 0, .int .i64 0]), 4, 32) := by kernel_rfl
theorem R_emptyF (W : World) (base : Nat) (h : base ≤ W.heap.size) : kFD.R 49 (W.alloc (.cells #[] 49)) base (fun _ => True) (.slice (some ⟨W.heap.size, 0, none⟩) 0 0) [] :=
  ⟨fun _ _ => trivial, [], ⟨by simp, .inr ⟨W.heap.size, 0, #[], rfl, h, blk_new W _, Nat.le_refl _, Nat.zero_le _, by simp, by simp⟩⟩, by constructor <;> simp⟩
set_option maxHeartbeats 2000000 in
set_option maxRecDepth 100000 in
theorem cloneF (A : Option Addr) (c : Nat) (l : List FD) (w : World) (hr : Kd.C kFD w A l.length l) (hl : l.length ≤ 1000000) :
    Calls Try.prog 41 #[.slice A l.length c] w fun e w' => ∃ v : Value, e = .returned v ∧ Kd.R kFD 49 w' w.heap.size (fun _ => True) v l ∧ Below w.heap.size w w' := by
  have hq := fun (W : World) => Lib.run_eql_slice_nil (P := Try.prog) W 45 49 A l.length c 0 0 Try.underlying45
  have HR := Aside0.mk hr
  have HL := Aside0.mk hl
  clear hr hl
  cases A with
  | none =>
    have hnil : l = [] := by
      cases l with
      | nil => rfl
      | cons x xs => obtain ⟨_, _, e⟩ := HR.out; obtain ⟨_, he, _⟩ := e (by simp); cases he
    subst hnil
    simp only [Option.isNone_none, List.length_nil] at hq
    go_enter Try.func41, Try.ntmps41
    go_wp2
    go_ret
    exact ⟨_, rfl, Kd.R_nil _ _ _ _ _, Below.refl _ _⟩
  | some ad =>
    simp only [Option.isNone_some] at hq
    go_enter Try.func41, Try.ntmps41
    go_wp2_with ((with_reducible refine gate_dst (N := 7) rfl ?_); refine Kd.R_append_rows kFD (w0 := w) w.heap.size rfl (.tmp 5) (.tmp 6) 45 49 (.agg #[.int .i64 0, .int .i64 0, .int .i64 0, .int .i64 0]) 32 rfl Try.underlying45 infoF rfl (by decide) (by decide) (.slice (some ⟨w.heap.size, 0, none⟩) 0 0) [] l (some ad) l.length c (fun _ => True) (fun _ => False) rfl rfl (R_emptyF w _ (Nat.le_refl _)) (Kd.C_alloc HR.out _) (fun _ _ h => h) (fun _ h => h.elim) (fun _ _ => trivial) (below_alloc (Below.refl _ _) _) (by simp) (by have := HL.out; simp; omega) ?_; intro v1 w1 ho hb hg hat; have HO := Aside0.mk ho; have HB := Aside0.mk hb; clear ho hb hg hat)
    go_ret
    have h1 := HO.out
    simp only [List.nil_append] at h1
    exact ⟨_, rfl, h1, HB.out⟩
end Go.Proofs.Ytkncmbbkehnagaa.Cm

/-
  turn.Spots: its function value gives all spots, numbered, block by block.
-/
set_option linter.unusedVariables false
set_option linter.unusedSimpArgs false
namespace Go.Proofs.Ytkncmbbkehnagaa.Iter
open Go.RowKit Go.Shelf Go.Proofs.YtkncmbbkehnagaaW.PrintWords Go.Proofs.YtkncmbbkehnagaaW.PrintLast Go.Proofs.YtkncmbbkehnagaaW.PrintMore
attribute [local go_sem] Oper.semAt_some

abbrev Spot3 := Int × Int × Int
def encSpot (x : Spot3) : Array Value := #[.int .i64 x.1, .agg #[.int .i64 x.2.1, .int .i64 x.2.2]]
/-- The first k spots, p pages a block. -/
def spotsTo (p : Int) (k : Nat) : List Spot3 := (List.range k).map fun i : Nat => ((i : Int), (i : Int) / p, (i : Int) % p)
def spotsList (b p : Int) : List Spot3 := if b < 1 ∨ p < 1 ∨ b > 64 ∨ p > 32 then [] else spotsTo p (b * p).toNat
theorem spotsTo_length (p : Int) (k : Nat) : (spotsTo p k).length = k := by simp [spotsTo]
theorem spotsTo_snoc (p : Int) (k : Nat) : spotsTo p (k + 1) = spotsTo p k ++ [((k : Int), (k : Int) / p, (k : Int) % p)] := by simp [spotsTo, List.range_succ]
theorem spotsTo_prefix (p : Int) {k m : Nat} (h : k ≤ m) : spotsTo p k <+: spotsTo p m := by
  obtain ⟨d, rfl⟩ := Nat.exists_eq_add_of_le h
  induction d with
  | zero => exact List.prefix_rfl
  | succ d ih => exact (ih (by omega)).trans (by rw [show k + (d + 1) = (k + d) + 1 by omega, spotsTo_snoc]; exact List.prefix_append _ _)

set_option maxHeartbeats 4000000 in
set_option maxRecDepth 100000 in
theorem spots1_out (m : Nat) (l Bb Bp : Nat) (b p : Int) (h : b < 1 ∨ p < 1 ∨ b > 64 ∨ p > 32) (W : World) (hBb : W.cell? ⟨Bb, 0, none⟩ = some (.int .i64 b)) (hBp : W.cell? ⟨Bp, 0, none⟩ = some (.int .i64 p)) :
    CallsIn Fence.wide m Try.prog 53 #[.func (.yield l) #[] #[], .pointer (some ⟨Bb, 0, none⟩), .pointer (some ⟨Bp, 0, none⟩)] W fun e W' => (∃ v, e = .returned v) ∧ W' = W := by
  have key : ∀ {b' p' : Int}, b = b' → p = p' → (b < 1 ∨ (1 ≤ b ∧ p < 1) ∨ (1 ≤ b ∧ 1 ≤ p ∧ b > 64) ∨ (1 ≤ b ∧ 1 ≤ p ∧ ¬ b > 64 ∧ p > 32)) := fun _ _ => by omega
  rcases key rfl rfl with h1 | ⟨h1, h2⟩ | ⟨h1, h2, h3⟩ | ⟨h1, h2, h3, h4⟩ <;> clear key h
  all_goals by_cases hle : b ≤ p
  all_goals
    refine callsIn_of_wp Try.func53 rfl trivial ?_ rfl
    simp only [Try.ntmps53, List.size_toArray, List.length_cons, List.length_nil, Nat.reduceAdd, Nat.reduceSub, Array.replicate_succ, Array.replicate_zero, List.push_toArray, List.append_toArray, List.nil_append, List.cons_append]
    gi_wp2
    all_goals exact bodyPost_ret (results_none rfl _ _ _) rfl ⟨⟨_, rfl⟩, rfl⟩

set_option maxHeartbeats 4000000 in
set_option maxRecDepth 100000 in
theorem spots1_in (m : Nat) (l Bb Bp : Nat) (b p : Int) (hb1 : 1 ≤ b) (hb2 : b ≤ 64) (hp1 : 1 ≤ p) (hp2 : p ≤ 32) (J Jx : List Spot3 → World → Prop)
    (hY : ∀ pre x W, J pre W → pre.length < (b * p).toNat → YieldAt Fence.wide (m - 1) Try.prog l (encSpot x) W fun e W' =>
      (e = .returned (.bool true) ∧ J (pre ++ [x]) W' ∧ KpS (fun k => k = Bb ∨ k = Bp) W W') ∨ (e = .returned (.bool false) ∧ Jx (pre ++ [x]) W'))
    (hJd : ∀ pre W W', J pre W → World.grownBy W W' none → J pre W')
    (W : World) (hBb : W.cell? ⟨Bb, 0, none⟩ = some (.int .i64 b)) (hBp : W.cell? ⟨Bp, 0, none⟩ = some (.int .i64 p)) (hcp : ∃ c t f, W.heap[Bp]? = some (.cells c t f)) (h0 : J [] W) :
    CallsIn Fence.wide m Try.prog 53 #[.func (.yield l) #[] #[], .pointer (some ⟨Bb, 0, none⟩), .pointer (some ⟨Bp, 0, none⟩)] W fun e W' => (∃ v, e = .returned v) ∧
      ((∃ ys, ys = spotsTo p (b * p).toNat ∧ J ys W') ∨ (∃ pre, pre <+: spotsTo p (b * p).toNat ∧ Jx pre W')) := by
  have hg1 : ¬ (b > 64) := by omega
  have hg2 : ¬ (p > 32) := by omega
  have hbp : b * p ≤ 64 * 32 := Int.mul_le_mul hb2 hp2 (by omega) (by omega)
  have hbp0 : 0 ≤ b * p := Int.mul_nonneg (by omega) (by omega)
  obtain ⟨N, hN⟩ : ∃ N, b * p = N := ⟨_, rfl⟩
  have hw : wrap64 N = N := by unfold wrap64; omega
  rw [hN] at hY hbp hbp0 ⊢
  by_cases hle : b ≤ p
  all_goals
    refine callsIn_of_wp Try.func53 rfl trivial ?_ rfl
    simp only [Try.ntmps53, List.size_toArray, List.length_cons, List.length_nil, Nat.reduceAdd, Nat.reduceSub, Array.replicate_succ, Array.replicate_zero, List.push_toArray, List.append_toArray, List.nil_append, List.cons_append]
    gi_wp2
    gi_loopw [20] (fun v20 wr => ∃ k : Nat, (k : Int) ≤ N ∧ v20 = .int .i64 (k : Int) ∧ J (spotsTo p k) wr ∧ Hid (KpS (fun k => k = Bb ∨ k = Bp) W wr)) (fun v20 wr => (N - intOf v20).toNat)
    case atStart => exact ⟨0, hbp0, rfl, by simpa [spotsTo] using h0, KpS.refl _ _⟩
    case round =>
      obtain ⟨k, hk, rfl, hJ, HK⟩ := hrel
      by_cases hlt : (k : Int) < N
      · have hJ' := hJd _ _ wr.drew hJ ⟨rfl, rfl, rfl, Nat.le_refl _, fun _ _ _ => rfl⟩
        obtain ⟨fn, tmps, assign, body, hy, hR⟩ := hY _ ((k : Int), (k : Int) / p, (k : Int) % p) wr.drew hJ' (by rw [spotsTo_length]; omega)
        dsimp only [encSpot] at hy
        have hcb : wr.cell? ⟨Bp, 0, none⟩ = some (.int .i64 p) := KpS.cell' HK.out (.inr rfl) hBp
        have hne : (p == 0) = false := by rw [beq_eq_false_iff_ne]; omega
        have hq0 : 0 ≤ (k : Int) / p := Int.ediv_nonneg (by omega) (by omega)
        have hq1 : (k : Int) / p ≤ (k : Int) := Int.ediv_le_self _ (by omega)
        have hqw : wrap64 ((k : Int) / p) = (k : Int) / p := by unfold wrap64; omega
        have hqw2 : IntKind.i64.wrap ((k : Int) / p) = (k : Int) / p := IntWalk.i64_in _ (by omega)
        have hmw : (k : Int).tmod p = (k : Int) % p := Int.tmod_eq_emod_of_nonneg (by omega)
        clear hq0 hq1
        have hR2 := hR.mono (R' := fun e W' => ∃ bb : Bool, e = .returned (.bool bb) ∧ ((bb = true ∧ J (spotsTo p k ++ [((k : Int), (k : Int) / p, (k : Int) % p)]) W' ∧ KpS (fun k => k = Bb ∨ k = Bp) wr.drew W') ∨ (bb = false ∧ Jx (spotsTo p k ++ [((k : Int), (k : Int) / p, (k : Int) % p)]) W'))) (fun e W' h => h.elim (fun ⟨h1, h2, h3⟩ => ⟨true, h1, .inl ⟨rfl, h2, h3⟩⟩) (fun ⟨h1, h2⟩ => ⟨false, h1, .inr ⟨rfl, h2⟩⟩))
        clear hR
        clear hJ hJ' hY hBb hBp hg1 hg2
        gi_wp2
        gi_region_with ((try refine ⟨hdd _, ?_⟩); refine hR2.mono ?_; clear hR2; rintro e W2 ⟨bb, rfl, hor⟩)
        all_goals gi_wp2
        all_goals rcases hor with ⟨rfl, hJ2, hk2⟩ | ⟨rfl, hx2⟩
        all_goals first
          | exact absurd ‹(!true) = true› (by decide)
          | exact absurd ‹(!false) = false› (by decide)
          | exact bodyPost_ret (results_none rfl _ _ _) rfl ⟨⟨_, rfl⟩, .inr ⟨spotsTo p (k + 1), spotsTo_prefix p (by omega), by rw [spotsTo_snoc]; exact hx2⟩⟩
          | (have HK2 : Hid (KpS (fun k => k = Bb ∨ k = Bp) W W2) := KpS.trans HK.out (KpS.trans (KpS.of_grownBy (row := none) ⟨rfl, rfl, rfl, Nat.le_refl _, fun _ _ _ => rfl⟩ (fun _ e => by cases e)) hk2)
             clear hk2
             go_roundw
             case rel => exact ⟨k + 1, by omega, by go_num, by rw [spotsTo_snoc]; exact hJ2, HK2⟩
             case measure => simp [intOf]; omega)
      · have hke : k = N.toNat := by omega
        subst hke
        gi_wp2
        go_end0
        first | exact ⟨⟨_, rfl⟩, .inl hJ⟩ | exact ⟨⟨_, rfl⟩, .inl ⟨_, rfl, hJ⟩⟩ | exact hJ

set_option maxHeartbeats 1000000 in
theorem spots_calls (b p : Int) (w : World) :
    Calls Try.prog 32 #[.int .i64 b, .int .i64 p] w fun e w' => e = .returned (.func (.func 53) #[] #[.pointer (some ⟨w.heap.size, 0, none⟩), .pointer (some ⟨w.heap.size + 1, 0, none⟩)]) ∧
      w' = (w.alloc (.cells #[.int .i64 b] 3)).alloc (.cells #[.int .i64 p] 3) := by
  go_enter Try.func32, Try.ntmps32
  go_wp2
  go_ret
  exact ⟨rfl, rfl⟩
theorem spots_stops (m : Nat) (Bb Bp : Nat) (b p : Int) (w : World) (hBb : w.heap[Bb]? = some (.cells #[.int .i64 b] 3 (0, 0))) (hBp : w.heap[Bp]? = some (.cells #[.int .i64 p] 3 (0, 0))) :
    SeqStopsK Fence.wide m Try.prog 53 #[.pointer (some ⟨Bb, 0, none⟩), .pointer (some ⟨Bp, 0, none⟩)] encSpot (KpS (fun k => k = Bb ∨ k = Bp)) (fun ys => ys = spotsList b p) (fun pre => pre <+: spotsList b p) (spotsList b p).length w := fun l J Jx W hW hJ _ hY h0 => by
  have ha := (hW.block Bb (Array.getElem?_eq_some_iff.1 hBb).1).trans hBb
  have hb := (hW.block Bp (Array.getElem?_eq_some_iff.1 hBp).1).trans hBp
  have ca : W.cell? ⟨Bb, 0, none⟩ = some (.int .i64 b) := by simp [World.cell?, ha]
  have cb : W.cell? ⟨Bp, 0, none⟩ = some (.int .i64 p) := by simp [World.cell?, hb]
  by_cases h : b < 1 ∨ p < 1 ∨ b > 64 ∨ p > 32
  · have e : spotsList b p = [] := by unfold spotsList; rw [if_pos h]
    rw [e]
    refine (spots1_out m l Bb Bp b p h W ca cb).mono ?_
    rintro e W' ⟨hv, rfl⟩
    exact ⟨hv, .inl ⟨[], rfl, h0⟩⟩
  · have e : spotsList b p = spotsTo p (b * p).toNat := by unfold spotsList; rw [if_neg h]
    rw [e] at hY ⊢
    rw [spotsTo_length] at hY
    exact spots1_in m l Bb Bp b p (by omega) (by omega) (by omega) (by omega) J Jx hY (fun pre A B hj hg => hJ pre A B none hj hg (fun r e => by cases e)) W ca cb ⟨_, _, _, hb⟩ h0
end Go.Proofs.Ytkncmbbkehnagaa.Iter

set_option linter.unusedVariables false
set_option linter.unusedSimpArgs false
/-! mount.New. -/
namespace Go.Proofs.Ytkncmbbkehnagaa.Cm
open Go.RowKit Go.Shelf Go.Proofs.YtkncmbbkehnagaaW.PrintWords Go.Proofs.YtkncmbbkehnagaaW.PrintLast Go.Proofs.YtkncmbbkehnagaaW.PrintMore Go.Proofs.Ytkncmbbkehnagaa.Kp Go.Proofs.Ytkncmbbkehnagaa.Cp Go.Proofs.Ytkncmbbkehnagaa.Iter
attribute [local go_sem] max2_int min2_int
attribute [local go_sem] Oper.semAt_some

def rowS (x : Spot3) : List Value := [.int .i64 x.2.1, .int .i64 x.2.2]
def rowsS (l : List Spot3) : List Value := l.flatMap rowS
theorem rowsS_snoc (l : List Spot3) (x : Spot3) : rowsS (l ++ [x]) = rowsS l ++ rowS x := by simp [rowsS]
/-- New's round: so many spots are there. -/
structure SwI (W : World) (B q g base : Nat) (pre : List Spot3) (u v : Value) : Prop where
  box : Boxed W B 41 (.pointer (some ⟨q, 0, none⟩))
  scan : W.heap[q]? = some (.cells (scCells g u (.slice none 0 0) (.slice none 0 0)) 87 (0, 0))
  row : W.ownsRow base 40 2 v pre.length (rowsS pre)
def Sw (B q g base : Nat) (pre : List Spot3) (W : World) : Prop := ∃ v, SwI W B q g base pre v v
theorem sw_own (B q g base : Nat) : Own (fun s W => Sw B q g base s W) := by
  rintro s X Y row ⟨v, h⟩ hg hrow
  refine ⟨v, cells_kept h.box hg hrow, cells_kept h.scan hg hrow, h.row.kept hg ?_⟩
  rcases h.row.2 with ⟨rfl, _⟩ | ⟨q, cap, cur, rfl, _, hgb, _⟩
  · exact .inl rfl
  · refine .inr fun e' => ?_
    obtain ⟨o, ho, hc⟩ := hrow q (by simpa [Value.ownBlock] using e'.symm)
    rw [hgb] at ho
    cases ho
    cases hc
theorem keepU {X Y : World} {base n k t : Nat} {v : Value} {xs : List Value} {cs : Array Value} (hr : X.ownsRow base 40 2 v n xs) (hg : X.grownBy Y v.ownBlock) (h : X.heap[k]? = some (.cells cs t (0, 0))) (ht : t ≠ 40) : Y.heap[k]? = some (.cells cs t (0, 0)) := by
  refine (hg.block k (Array.getElem?_eq_some_iff.1 h).1 (fun e => ?_)).trans h
  rcases hr.2 with ⟨rfl, _⟩ | ⟨q, cap, cur, rfl, _, hgb, _⟩
  · cases e
  · obtain rfl : k = q := by simpa [Value.ownBlock] using e
    rw [h] at hgb
    injection hgb with hgb
    injection hgb with _ hgb
    exact ht hgb
section
variable {X Y W w5 : World} {B q g base : Nat} {pre : List Spot3} {u v : Value}
theorem SwI.alloc (h : SwI X B q g base pre u v) (o : Obj) : SwI (X.alloc o) B q g base pre u v := ⟨h.box.alloc _, blk_alloc h.scan _, h.row.alloc _⟩
theorem SwI.app (h : SwI X B q g base pre u v) (x : Spot3) (hg : X.grownBy Y v.ownBlock) {v' : Value} (ho : Y.ownsRow base 40 2 v' (pre.length + 1) (rowsS pre ++ rowS x)) : SwI Y B q g base (pre ++ [x]) u v' :=
  ⟨keepU h.row hg h.box (by decide), keepU h.row hg h.scan (by decide), by rw [rowsS_snoc, List.length_append]; exact ho⟩
theorem SwI.store (h : SwI X B q g base pre u v) (hgb : q < base) : SwI (X.setCell ⟨q, 1, none⟩ v) B q g base pre v v := by
  refine ⟨blk_far h.box (p := ⟨q, 1, none⟩) (type_ne h.box h.scan (by decide)) _, blk_put h.scan 1 _ rfl, own_move h.row (fun k hk => Below.heap_setCell X ⟨q, 1, none⟩ v k (fun e => ?_))⟩
  have := own_base h.row k hk
  simp only at e
  omega
/-- In the midst of a round. -/
structure Sd (Sx : Nat → Prop) (W w5 : World) (B q g base : Nat) (pre : List Spot3) (u v : Value) (X : World) : Prop where
  nw : SwI X B q g base pre u v
  below : Below q w5 X
  keeps : KeepsOthers W X
  kp : KpS Sx W X
  size : base ≤ X.heap.size
  far : ∀ k, Sx k → B < k ∧ k < base
  gb : q < B ∧ B < base
variable {Sx : Nat → Prop}
theorem Sd.alloc (h : Sd Sx W w5 B q g base pre u v X) (o : Obj) : Sd Sx W w5 B q g base pre u v (X.alloc o) :=
  ⟨h.nw.alloc o, h.below.alloc (by have := h.gb; have := h.size; omega) _, h.keeps.trans (KeepsOthers.alloc _ _), h.kp.trans (KpS.alloc _ _), by have := h.size; simp; omega, h.far, h.gb⟩
theorem Sd.app (h : Sd Sx W w5 B q g base pre u v X) (x : Spot3) (hg : X.grownBy Y v.ownBlock) {v' : Value} (ho : Y.ownsRow base 40 2 v' (pre.length + 1) (rowsS pre ++ rowS x)) (hs : X.heap.size ≤ Y.heap.size) : Sd Sx W w5 B q g base (pre ++ [x]) u v' Y := by
  have hb : ∀ k, v.ownBlock = some k → base ≤ k := own_base h.nw.row
  refine ⟨h.nw.app x hg ho, h.below.grown hg (by have := h.gb; have := h.size; omega) (fun k hk => by have := hb k hk; have := h.gb; omega), h.keeps.trans (KeepsOthers.of_grownBy hg fun j o ej hj => ?_), h.kp.trans (KpS.of_grownBy hg fun k hk hs => by have := hb k hk; have := h.far k hs; omega), Nat.le_trans h.size hs, h.far, h.gb⟩
  rcases h.nw.row.2 with ⟨rfl, _⟩ | ⟨q', cap, cur, rfl, _, hgb, _⟩
  · simp [Value.ownBlock] at ej
  · obtain rfl : q' = j := by simpa [Value.ownBlock] using ej
    rw [hgb] at hj; cases hj; rfl
theorem kps_set1 {S : Nat → Prop} (W : World) (b j : Nat) (v : Value) (h : ¬ S b) : KpS S W (W.setCell ⟨b, j, none⟩ v) := fun k hk c t f hh => (Below.heap_setCell W ⟨b, j, none⟩ v k (fun e => h (by simp only at e; exact e ▸ hk))).trans hh
theorem Sd.store (h : Sd Sx W w5 B q g base pre u v X) : Sd Sx W w5 B q g base pre v v (X.setCell ⟨q, 1, none⟩ v) :=
  ⟨h.nw.store (by have := h.gb; omega), h.below.setCell (p := ⟨q, 1, none⟩) (Nat.le_refl _) _, h.keeps.trans (KeepsOthers.setCell _ _ _), h.kp.trans (kps_set1 _ _ _ _ (fun hk => by have := h.far _ hk; have := h.gb; omega)), by simpa [World.setCell] using h.size, h.far, h.gb⟩
end
theorem infoSP : (Try.prog.info? 40).map (fun i => (i.zero, i.size, i.bytes)) = some (some (.agg #[.int .i64 0, .int .i64 0]), 2, 16) := by kernel_rfl
theorem entersS : ∀ args w, (callFunc 53 args).run Try.prog w = .ok (.enter 53 args) w := enters_of Try.func53 (by kernel_rfl) rfl
set_option maxHeartbeats 4000000 in
set_option maxRecDepth 100000 in
theorem mnewIn {w : World} {base0 : Nat} {S : Nat → Prop} {g : Nat} {s : Chp} (h : Hd w base0 S g s) (hn1 : 0 < s.blocks.length) (hx : ∀ B ∈ s.blocks, ∀ xs ∈ B.pages, xs.length ≤ 100000) :
    CallsIn Fence.wide 9 Try.prog 14 #[.pointer (some ⟨g, 0, none⟩)] w fun e w' => ∃ q v, e = .returned (.pointer (some ⟨q, 0, none⟩)) ∧ w.heap.size ≤ q ∧ Below w.heap.size w w' ∧
      w'.heap[q]? = some (.cells (scCells g v (.slice none 0 0) (.slice none 0 0)) 87 (0, 0)) ∧ w'.ownsRow w.heap.size 40 2 v (spotsList s.blocks.length s.pages).length (rowsS (spotsList s.blocks.length s.pages)) := by
  have HH := Lib.hid h
  have HX := Lib.hid hx
  have HN1 := Lib.hid hn1
  clear h hx hn1
  obtain ⟨iB, hiB, hzB, hsB, hbB⟩ := info_parts infoSP
  refine callsIn_of_wp_marks Try.func14 rfl trivial ?_ rfl
  simp only [Try.ntmps14, List.size_toArray, List.length_cons, List.length_nil, Nat.reduceAdd, Nat.reduceSub, Array.replicate_succ, Array.replicate_zero, List.push_toArray, List.append_toArray, List.nil_append, List.cons_append]
  gi_wp2_with fail
  refine ⟨trivial, ?_⟩
  obtain ⟨w2, hw2⟩ : ∃ w2, (w.alloc (.cells #[.pointer (some ⟨g, 0, none⟩), .slice none 0 0, .slice none 0 0, .slice none 0 0] 87)).alloc (.cells #[.pointer (some ⟨w.heap.size, 0, none⟩)] 41) = w2 := ⟨_, rfl⟩
  have q2 : w2.heap[w.heap.size]? = some (.cells (scCells g (.slice none 0 0) (.slice none 0 0) (.slice none 0 0)) 87 (0, 0)) := by rw [← hw2]; exact blk_alloc (blk_new w _) _
  have q3 : Boxed w2 (w.heap.size + 1) 41 (.pointer (some ⟨w.heap.size, 0, none⟩)) := by rw [← hw2]; have := Boxed.new (w.alloc (.cells #[.pointer (some ⟨g, 0, none⟩), .slice none 0 0, .slice none 0 0, .slice none 0 0] 87)) 41 (.pointer (some ⟨w.heap.size, 0, none⟩)); simpa using this
  have hz2 : w2.heap.size = w.heap.size + 2 := by rw [← hw2]; simp
  have hB2 : Below w.heap.size w w2 := by rw [← hw2]; exact below_alloc (below_alloc (Below.refl _ _) _) _
  have HZ2 := Lib.hid hz2
  have HB2 := Lib.hid hB2
  have Q2 := Lib.hid q2
  have Q3 := Lib.hid q3
  rw [hw2]
  clear hw2 q2 q3 hz2 hB2
  refine (callsIn_wide.2 (blocks (HH.out.below HB2.out) HX.out)).mono ?_
  rintro ev w4 ⟨v4, l4, rfl, hR4, hF4, hH4, hB4⟩
  obtain ⟨A4, c4, rfl, -, hC4⟩ := Kd.R_reads hR4
  have hl4 := hF4.1
  obtain ⟨B0, hB0⟩ : ∃ B0, s.blocks[0]? = some B0 := ⟨_, List.getElem?_eq_getElem HN1.out⟩
  obtain ⟨p0, hp0, A0, c0, he0, -, -⟩ := hF4.2 0 B0 hB0
  have hpl : (B0.pages.length : Int) = s.pages := hH4.chip.inv.len B0 (List.mem_of_getElem? hB0)
  have hl0 : 0 < l4.length := by rw [hl4]; exact HN1.out
  obtain ⟨ad, rfl, -, -, -, hcp⟩ := fbAt hC4 0 (by omega)
  have hg0 : l4.getD 0 zF = ⟨B0.bad, B0.next, B0.count, p0⟩ := by rw [List.getD_eq_getElem?_getD, hp0]; rfl
  rw [hg0] at hcp
  have hp00 : p0 = (A0, B0.pages.length, c0) := by
    obtain ⟨x, y, z⟩ := p0
    simp only [encS] at he0
    injection he0 with e1 e2 e3
    rw [e1, e2, e3]
  rw [hp00] at hcp
  have HCP := Lib.hid hcp
  have HL4 := Lib.hid hl4
  have HPL := Lib.hid hpl
  have HINV := Lib.hid hH4.chip.inv
  have HB4 := Lib.hid (below_step HB2.out hB4)
  have HZ4 := Lib.hid hB4.size
  have R2 := Lib.hid (blk_below Q2.out hB4)
  have R3 := Lib.hid (show Boxed w4 (w.heap.size + 1) 41 (.pointer (some ⟨w.heap.size, 0, none⟩)) from blk_below Q3.out hB4)
  have h0l : (0 : Int) < (l4.length : Int) := by omega
  have a0 : ad.add (0 * 4) = ad := by
    obtain ⟨b, o, s⟩ := ad
    cases s <;> simp [Addr.add]
  rw [a0] at hcp
  clear hR4 hF4 hH4 hB4 hC4 hl4 hB0 hp0 he0 hpl hg0 hp00 Q2 Q3 a0
  gi_wp2_with fail
  refine ⟨trivial, ?_⟩
  refine (callsIn_wide.2 (spots_calls (l4.length : Int) (B0.pages.length : Int) w4)).mono ?_
  rintro ev w5 ⟨rfl, hw5⟩
  have hz5 : w5.heap.size = w4.heap.size + 2 := by rw [hw5]; simp
  have hB5 : Below w4.heap.size w4 w5 := by rw [hw5]; exact below_alloc (below_alloc (Below.refl _ _) _) _
  have hN1 : w5.heap[w4.heap.size]? = some (.cells #[.int .i64 (l4.length : Int)] 3 (0, 0)) := by rw [hw5]; exact blk_alloc (blk_new w4 _) _
  have hN2 : w5.heap[w4.heap.size + 1]? = some (.cells #[.int .i64 (B0.pages.length : Int)] 3 (0, 0)) := by rw [hw5]; have := blk_new (w4.alloc (.cells #[.int .i64 (l4.length : Int)] 3)) (.cells #[.int .i64 (B0.pages.length : Int)] 3); simpa using this
  have P2 := Lib.hid (blk_below R2.out hB5)
  have P3 := Lib.hid (show Boxed w5 (w.heap.size + 1) 41 (.pointer (some ⟨w.heap.size, 0, none⟩)) from blk_below R3.out hB5)
  have HSEQ := fun m => Lib.hid (spots_stops m w4.heap.size (w4.heap.size + 1) (l4.length : Int) (B0.pages.length : Int) w5 hN1 hN2)
  have hlen : (spotsList (l4.length : Int) (B0.pages.length : Int)).length ≤ 10000 := by
    unfold spotsList
    split
    · simp
    · rename_i hh
      rw [spotsTo_length]
      have : (l4.length : Int) * (B0.pages.length : Int) ≤ 64 * 32 := Int.mul_le_mul (by omega) (by omega) (by omega) (by omega)
      omega
  have HLEN := Lib.hid hlen
  have HZ5 := Lib.hid hz5
  have HB5 := Lib.hid (below_step HB4.out hB5)
  have HZ24 := Lib.hid (show w2.heap.size ≤ w4.heap.size from HZ4.out)
  clear hw5 hz5 hB5 hN1 hN2 R2 R3 hlen hcp h0l hl0 HCP
  gi_wp2_with fail
  refine wpIn_rangeFunc_ownH rfl (by omega) (gf := 53) (lb := #[.pointer (some ⟨w4.heap.size, 0, none⟩), .pointer (some ⟨w4.heap.size + 1, 0, none⟩)]) rfl trivial entersS
    (HSEQ 8).out KpS.t (KpS.b (B := w5.heap.size)) (Below.refl _ _) (fun _ => rfl)
    (fun pre W => Sw (w.heap.size + 1) w.heap.size g w5.heap.size pre W ∧ Below w.heap.size w5 W)
    (fun c pre W => False)
    (OwnFrom.and (Own.from (sw_own _ _ _ _) _) (ownFrom_below (by have := HZ2.out; have := HZ24.out; have := HZ5.out; omega) (by have := HZ2.out; have := HZ24.out; have := HZ5.out; omega)))
    (fun c => ownFrom_pure _ (fun pre => False))
    ⟨⟨.slice none 0 0, ⟨P3.out, P2.out, World.ownsRow_nil _ _ _ _⟩⟩, Below.refl _ _⟩
    (fun x a' W => ∃ B v, w5.heap.size ≤ B ∧ W.heap[B]? = some (.cells #[.int .i64 x.2.1, .int .i64 x.2.2] 40 (0, 0)) ∧ W.heap[w.heap.size]? = some (.cells (scCells g v (.slice none 0 0) (.slice none 0 0)) 87 (0, 0)) ∧ v.ownBlock ≠ some B ∧ a' = { tmps := #[.pointer (some ⟨g, 0, none⟩), undef, .pointer none, .pointer (some ⟨w.heap.size + 1, 0, none⟩), .slice (some ad) l4.length c4, undef, .pointer (some ⟨B, 0, none⟩), .pointer (some ⟨g, 0, none⟩), .bool false, .pointer (some ⟨g, 0, none⟩), .agg #[.pointer (some ⟨g, 0, none⟩), .slice none 0 0, .slice none 0 0, .slice none 0 0], .pointer (some ⟨w.heap.size, 0, none⟩), .pointer (some ⟨g, 0, none⟩), .slice (some ad) l4.length c4, .slice (some ad) l4.length c4, .int .i64 (l4.length : Int), .slice (some ad) l4.length c4, .pointer (some ad), .pointer (some ⟨ad.block, ad.off + 3, none⟩), .slice A0 B0.pages.length c0, .int .i64 (B0.pages.length : Int), .func (.func 53) #[] #[.pointer (some ⟨w4.heap.size, 0, none⟩), .pointer (some ⟨w4.heap.size + 1, 0, none⟩)], .int .i64 x.1, .agg #[.int .i64 x.2.1, .int .i64 x.2.2], undef, undef, undef, undef, undef, undef, undef, undef, undef, undef, undef], defers := [] }) ?hAx ?assign ?body ?done ?stop
  case hAx =>
    rintro x a' _ X Y row ⟨B, v, hB, hh, hs, hv, ha⟩ hg hrow
    have key : ∀ {k t : Nat} {cs : Array Value}, X.heap[k]? = some (.cells cs t (0, 0)) → Y.heap[k]? = some (.cells cs t (0, 0)) := fun {k t cs} hh => by
      refine (hg.block k (Array.getElem?_eq_some_iff.1 hh).1 (fun e => ?_)).trans hh
      obtain ⟨_, o, ho, hc⟩ := hrow k e.symm
      rw [hh] at ho
      cases ho
      cases hc
    exact ⟨B, v, hB, key hh, key hs, hv, ha⟩
  case assign =>
    rintro l pre x W K ⟨⟨v, hN⟩, hB⟩ hK
    simp only [encSpot]
    gi_wp2
    exact hK _ _ ((KeepsOthers.alloc _ _).from _) (KpS.alloc _ _) ⟨⟨v, hN.alloc _⟩, hB.alloc (by have := hB.size; have := HZ2.out; have := HZ24.out; have := HZ5.out; omega) _⟩ ⟨W.heap.size, v, hB.size, blk_new W _, blk_alloc hN.scan _, fun e => by have := own_lt hN.row _ e; omega, rfl⟩
  case body =>
    rintro l pre ⟨x, sb, sp⟩ a' W hl - ⟨⟨v, hN⟩, hB⟩ ⟨Bx, v1, hBB, hh, hsc, hne, rfl⟩ hpl
    obtain rfl : v = v1 := by
      have h1 := hN.scan
      rw [hsc] at h1
      injection h1 with h1
      injection h1 with h1
      simp only [scCells, Array.mk.injEq, List.cons.injEq] at h1
      exact h1.2.1.symm
    have hpl' : pre.length < 10000 := Nat.lt_of_lt_of_le hpl HLEN.out
    clear hsc
    gi_wp2_with fail
    refine HeldRound.region_round (fun j => j == 10) (fun w' : World => w'.cell? ⟨w.heap.size + 1, 0, none⟩ = some (.pointer (some ⟨w.heap.size, 0, none⟩)) ∧ w'.cell? ⟨w.heap.size, 1, none⟩ = some v ∧ w'.cell? ⟨Bx, 0, none⟩ = some (.int .i64 sb) ∧ w'.cell? ⟨Bx, 1, none⟩ = some (.int .i64 sp)) (by kernel_rfl) (by kernel_rfl) ?_
    have G0 : Sd (fun k => k = w4.heap.size ∨ k = w4.heap.size + 1) W w5 (w.heap.size + 1) w.heap.size g w5.heap.size pre v v W.drew :=
      ⟨⟨hN.box, hN.scan, hN.row⟩, pw_below_drewN hB 1, KeepsOthers.drew W, KpS.refl _ _, by have := hB.size; simpa using this, fun k hk => by have := HZ2.out; have := HZ24.out; have := HZ5.out; omega, by have := HZ2.out; have := HZ24.out; have := HZ5.out; omega⟩
    have N0 : W.drew.heap[Bx]? = some (.cells #[.int .i64 sb, .int .i64 sp] 40 (0, 0)) := hh
    have SG : ∀ {v' : Value} {pre' : List Spot3} {w' : World}, Sd (fun k => k = w4.heap.size ∨ k = w4.heap.size + 1) W w5 (w.heap.size + 1) w.heap.size g w5.heap.size pre' v v' w' → w'.heap[Bx]? = some (.cells #[.int .i64 sb, .int .i64 sp] 40 (0, 0)) →
        w'.cell? ⟨w.heap.size + 1, 0, none⟩ = some (.pointer (some ⟨w.heap.size, 0, none⟩)) ∧ w'.cell? ⟨w.heap.size, 1, none⟩ = some v ∧ w'.cell? ⟨Bx, 0, none⟩ = some (.int .i64 sb) ∧ w'.cell? ⟨Bx, 1, none⟩ = some (.int .i64 sp) := fun h hx =>
      ⟨h.nw.box.cell, (blk_cell h.nw.scan 1).trans (show (scCells g v (.slice none 0 0) (.slice none 0 0))[1]? = some v from rfl), (blk_cell hx 0).trans rfl, (blk_cell hx 1).trans rfl⟩
    obtain ⟨X0, hX0⟩ : ∃ X, X = W.drew := ⟨_, rfl⟩
    rw [← hX0] at G0 N0 ⊢
    have hS0 := SG G0 N0
    clear hX0 hN hB hh
    refine HeldRound.take_anyT (i := 0) (v := .pointer (some ⟨w.heap.size, 0, none⟩)) rfl (by kernel_rfl) (by kernel_rfl) (by kernel_rfl) (by kernel_rfl) (by kernel_rfl) (fun c a w h => by cases h.1) (.inl ⟨by rfl, fun w' hw' => by obtain ⟨k1, k2, k3, k4⟩ := hw'; go_simp⟩) hS0 ?_
    simp only [Act.put, List.setIfInBounds_toArray, List.set_cons_zero, List.set_cons_succ]
    refine HeldRound.take_anyT (i := 1) (v := .pointer (some ⟨w.heap.size, 0, none⟩)) rfl (by kernel_rfl) (by kernel_rfl) (by kernel_rfl) (by kernel_rfl) (by kernel_rfl) (fun c a w h => by cases h.1) (.inl ⟨by rfl, fun w' hw' => by obtain ⟨k1, k2, k3, k4⟩ := hw'; go_simp⟩) hS0 ?_
    simp only [Act.put, List.setIfInBounds_toArray, List.set_cons_zero, List.set_cons_succ]
    refine HeldRound.take_anyT (i := 2) (v := .pointer (some ⟨w.heap.size, 0, none⟩)) rfl (by kernel_rfl) (by kernel_rfl) (by kernel_rfl) (by kernel_rfl) (by kernel_rfl) (fun c a w h => by cases h.1) (.inl ⟨by rfl, fun w' hw' => by obtain ⟨k1, k2, k3, k4⟩ := hw'; go_simp⟩) hS0 ?_
    simp only [Act.put, List.setIfInBounds_toArray, List.set_cons_zero, List.set_cons_succ]
    refine HeldRound.take_anyT (i := 3) (v := .pointer (some ⟨w.heap.size, 1, none⟩)) rfl (by kernel_rfl) (by kernel_rfl) (by kernel_rfl) (by kernel_rfl) (by kernel_rfl) (fun c a w h => by cases h.1) (.inl ⟨by rfl, fun w' hw' => by obtain ⟨k1, k2, k3, k4⟩ := hw'; go_simp⟩) hS0 ?_
    simp only [Act.put, List.setIfInBounds_toArray, List.set_cons_zero, List.set_cons_succ]
    refine HeldRound.take_anyT (i := 4) (v := v) rfl (by kernel_rfl) (by kernel_rfl) (by kernel_rfl) (by kernel_rfl) (by kernel_rfl) (fun c a w h => by cases h.1) (.inl ⟨by rfl, fun w' hw' => by obtain ⟨k1, k2, k3, k4⟩ := hw'; go_simp⟩) hS0 ?_
    simp only [Act.put, List.setIfInBounds_toArray, List.set_cons_zero, List.set_cons_succ]
    refine HeldRound.take_anyT (i := 5) (v := .agg #[.int .i64 sb, .int .i64 sp]) rfl (by kernel_rfl) (by kernel_rfl) (by kernel_rfl) (by kernel_rfl) (by kernel_rfl) (fun c a w h => by cases h.1) (.inl ⟨by rfl, fun w' hw' => by obtain ⟨k1, k2, k3, k4⟩ := hw'; go_simp⟩) hS0 ?_
    simp only [Act.put, List.setIfInBounds_toArray, List.set_cons_zero, List.set_cons_succ]
    refine HeldRound.all_anyT (rs := [6]) (by kernel_rfl) (by simp) ?_
    simp only [List.forall_mem_cons]
    refine ⟨?_, fun _ h => by cases h⟩
    refine HeldRound.op_anyT rfl (by rfl) (fun K hK => ?_)
    have G2 := G0.alloc (.cells #[.int .i64 sb, .int .i64 sp] 40)
    have N1 := blk_alloc N0 (.cells #[.int .i64 sb, .int .i64 sp] 40)
    have N2 : (X0.alloc (.cells #[.int .i64 sb, .int .i64 sp] 40)).heap[X0.heap.size]? = some (.cells #[.int .i64 sb, .int .i64 sp] 40 (0, 0)) := blk_new X0 _
    go_simp
    refine hK _ _ ⟨fun _ => SG G2 N1, ?_⟩
    clear hK K
    obtain ⟨b2, hb2⟩ : ∃ B, X0.heap.size = B := ⟨_, rfl⟩
    obtain ⟨X2, hX2⟩ : ∃ Y, X0.alloc (.cells #[.int .i64 sb, .int .i64 sp] 40) = Y := ⟨_, rfl⟩
    simp only [hX2, hb2] at N1 N2 G2 ⊢
    refine HeldRound.all_anyT (rs := [7]) (by kernel_rfl) (by simp) ?_
    simp only [List.forall_mem_cons]
    refine ⟨?_, fun _ h => by cases h⟩
    refine HeldRound.op_anyT rfl (by rfl) (fun K hK => ?_)
    refine wp_append_lies _ _ _ 85 (by rfl) w5.heap.size 40 iB (.agg #[.int .i64 0, .int .i64 0]) 2 16 Try.underlying85 hiB hzB hsB hbB rfl (by decide) v _ _ (by rfl) G2.nw.row ⟨b2, 0, none⟩ 1 1 [.int .i64 sb, .int .i64 sp] (by rfl) rfl (row_at N2) (by simp [Value.oneCell']) (by decide) (by unfold maxLen; omega) (by omega) G2.size _ rfl ?_
    intro g3 cap3 X3 hown3 hgrow3 hat3 hlt3
    have G3 := G2.app (x, sb, sp) hgrow3 hown3 hgrow3.size
    have N3 : X3.heap[Bx]? = some (.cells #[.int .i64 sb, .int .i64 sp] 40 (0, 0)) := (hgrow3.block Bx (blk_lt N1) (fun e => hne e.symm)).trans N1
    refine hK _ _ ⟨fun _ => SG G3 N3, ?_⟩
    clear hK K
    simp only [Act.put, List.setIfInBounds_toArray, List.set_cons_zero, List.set_cons_succ]
    refine HeldRound.take_anyT (i := 8) (v := .pointer (some ⟨w.heap.size, 0, none⟩)) rfl (by kernel_rfl) (by kernel_rfl) (by kernel_rfl) (by kernel_rfl) (by kernel_rfl) (fun c a w h => by cases h.1) (.inl ⟨by rfl, fun w' hw' => by obtain ⟨k1, k2, k3, k4⟩ := hw'; go_simp⟩) (SG G3 N3) ?_
    simp only [Act.put, List.setIfInBounds_toArray, List.set_cons_zero, List.set_cons_succ]
    refine HeldRound.take_anyT (i := 9) (v := .pointer (some ⟨w.heap.size, 1, none⟩)) rfl (by kernel_rfl) (by kernel_rfl) (by kernel_rfl) (by kernel_rfl) (by kernel_rfl) (fun c a w h => by cases h.1) (.inl ⟨by rfl, fun w' hw' => by obtain ⟨k1, k2, k3, k4⟩ := hw'; go_simp⟩) (SG G3 N3) ?_
    simp only [Act.put, List.setIfInBounds_toArray, List.set_cons_zero, List.set_cons_succ]
    refine HeldRound.all_anyT (rs := [10]) (by kernel_rfl) (by simp) ?_
    simp only [List.forall_mem_cons]
    refine ⟨?_, fun _ h => by cases h⟩
    refine HeldRound.op_anyT rfl (by rfl) (fun K hK => ?_)
    have cG := (blk_cell G3.nw.scan 1).trans (show (scCells g v (.slice none 0 0) (.slice none 0 0))[1]? = some v from rfl)
    have fG : X3.frozen? ⟨w.heap.size, 1, none⟩ = false := blk_frozen G3.nw.scan 1
    have G4 := G3.store
    go_simp
    refine hK _ _ ⟨fun h => absurd h (by decide), ?_⟩
    clear hK K cG fG
    try simp only [Act.put, List.setIfInBounds_toArray, List.set_cons_zero, List.set_cons_succ]
    obtain ⟨X4, hX4⟩ : ∃ Y, X3.setCell ⟨w.heap.size, 1, none⟩ (.slice (some ⟨g3, 0, none⟩) (pre.length + 1) cap3) = Y := ⟨_, rfl⟩
    rw [hX4] at G4 ⊢
    clear hX4
    refine HeldRound.done_anyT (by kernel_rfl) ⟨rfl, ?_⟩ _
    gi_wp2_with fail
    exact ⟨G4.keeps.from _, G4.kp, ⟨_, G4.nw⟩, G4.below⟩
  case done =>
    rintro D ys W hD hys ⟨⟨v, hN⟩, hB⟩ hK
    have cB := hN.box.cell
    have HNN := Lib.hid hN
    have HBw := Lib.hid (show Below w.heap.size w W from HB5.out.trans hB)
    have HD0 := Lib.hid (show w5.heap.size ≤ D from hD)
    have HK := Lib.hid hK
    have HYS := Lib.hid hys
    clear hN hB hK hD hys
    gi_wp2_with fail
    have hfar : ∀ (o : Obj) (k t : Nat) (cs : Array Value), W.heap[k]? = some (.cells cs t (0, 0)) → (W.putObj D o).heap[k]? = some (.cells cs t (0, 0)) := fun o k t cs hk => by
      have hne : k ≠ D := by
        rintro rfl
        have := HK.out
        rw [hk] at this
        cases this
      rw [World.putObj_heap_other hne]
      exact hk
    refine ⟨by simp, .inl ⟨_, _, rfl, run_takeDeferred HK.out, ?_⟩⟩
    refine ⟨.pointer (some ⟨w.heap.size, 0, none⟩), by simp [results, Try.results14, go_sem], _, v, rfl, by omega, HBw.out.trans (belowK_b (w := w) (Nat.le_refl _) _ D _ _ ?_ HK.out rfl rfl), hfar _ _ _ _ HNN.out.scan, ?_⟩
    · have := HD0.out
      have := HZ2.out
      have := HZ24.out
      have := HZ5.out
      omega
    · have hr := HNN.out.row
      have hys := HYS.out
      rw [hys, HL4.out, HPL.out] at hr
      exact own_less (ownsRow_putObj (W := W) hr _ HK.out rfl) (by have := HZ2.out; have := HZ24.out; have := HZ5.out; omega)
  case stop =>
    rintro D c pre W hD hp h hK
    exact h.elim
end Go.Proofs.Ytkncmbbkehnagaa.Cm

/-  Began as a tool's text over an altered copy of the translation (NOTES.md). -/
namespace Go.Proofs.Ytkncmbbkehnagaa.PAll
open Go.RowKit Go.Proofs.YtkncmbbkehnagaaW.PrintWords Go.Proofs.YtkncmbbkehnagaaW.PrintLast Go.Proofs.YtkncmbbkehnagaaW.PrintMore
attribute [local go_sem] max2_int min2_int max_two min_two max_three min_three max_four min_four   -- for this text's walks alone
set_option linter.unusedVariables false
set_option linter.unusedSimpArgs false



def errW : Option Int → Value
  | none => .nilIface
  | some c => .iface 0 (.int .i64 c)
theorem errW_none : errW none = .nilIface := rfl
theorem errW_some (c : Int) : errW (some c) = .iface 0 (.int .i64 c) := rfl

theorem info5 : (Try.prog.info? 5).map (fun i => (i.zero, i.size, i.bytes)) = some (some (.int .u8 0), 1, 1) := by kernel_rfl
def rd_L1 (xs : List (List Int)) (i : Int) : (List Int) := xs.getD i.toNat ([] : List Int)
theorem at_L1 {w : World} {A : Option Addr} {n : Nat} {xs : List (List Int)} (h : Kd.C (Kd.slice 5 (Kd.int .u8)) w A n xs) (i : Int) (h0 : 0 ≤ i) (h1 : i < n) : ∃ ad A0 c0, A = some ad ∧ w.cell? (ad.add i.toNat) = some (.slice A0 (rd_L1 xs i).length c0) ∧ (rd_L1 xs i).length ≤ c0 ∧ (Kd.int .u8).C w A0 (rd_L1 xs i).length (rd_L1 xs i) := by
  obtain ⟨ad, c, e, _, hK, hc0⟩ := Kd.C_get h ([] : List Int) i h0 h1
  have hc : ∀ j u, c[j]? = some u → w.cell? (ad.add (i.toNat * 1 + j)) = some u := hc0
  obtain ⟨A0, c0, rfl, l0, g0⟩ := hK
  exact ⟨ad, A0, c0, e, by have hq := hc 0 _ rfl; rwa [Nat.mul_one, Nat.add_zero] at hq, l0, g0⟩

end Go.Proofs.Ytkncmbbkehnagaa.PAll

/-  Began as a tool's text over an altered copy of the translation (NOTES.md). -/
namespace Go.Proofs.Ytkncmbbkehnagaa.PAll
open Go.RowKit Go.Proofs.YtkncmbbkehnagaaW.PrintWords Go.Proofs.YtkncmbbkehnagaaW.PrintLast Go.Proofs.YtkncmbbkehnagaaW.PrintMore
attribute [local go_sem] max2_int min2_int max_two min_two max_three min_three max_four min_four   -- for this text's walks alone
set_option linter.unusedVariables false
set_option linter.unusedSimpArgs false

/-! ### slices_Reverse_byte_byte: function 39 -/
def slices_Reverse_byte_byte.l0 : Nat → List Int → Int → Int → Option (List Int)
  | 0, _, _, _ => none
  | k + 1, x0, x2, x3 => if x2 < x3 then (if 0 ≤ x3 then (if x3 < (x0.length : Int) then (if 0 ≤ x2 then (if x2 < (x0.length : Int) then (slices_Reverse_byte_byte.l0 k ((x0.set (x2 : Int).toNat (rd x0 x3)).set (x3 : Int).toNat (rd x0 x2)) (wrap64 (x2 + 1)) (wrap64 (x3 - 1))) else (none)) else (none)) else (none)) else (none)) else (some x0)
def slices_Reverse_byte_byte.f (k : Nat) (l0 : List Int) : Option (List Int) := slices_Reverse_byte_byte.l0 k l0 0 (wrap64 ((l0.length : Int) - 1))
theorem slices_Reverse_byte_byte.mono_l : ∀ k, (∀ y0 y1 y2, LeO (slices_Reverse_byte_byte.l0 k y0 y1 y2) (slices_Reverse_byte_byte.l0 (k + 1) y0 y1 y2))
  | 0 => fun _ _ _ r h => by simp [slices_Reverse_byte_byte.l0] at h
  | k + 1 => by
    have ih0 := slices_Reverse_byte_byte.mono_l k
    · intro y0 y1 y2
      unfold slices_Reverse_byte_byte.l0
      repeat' first
      | (with_reducible exact ih0 _ _ _)
      | (with_reducible exact LeO.refl _)
      | (with_reducible exact LeO.none _)
      | (with_reducible refine LeO.ite ?_ ?_)
      | (with_reducible refine LeO.bind ?_ (fun _ => ?_))
      | exact ih0 _ _ _
      | exact LeO.none _
      | refine LeO.ite ?_ ?_
      | refine LeO.bind ?_ (fun _ => ?_)
theorem slices_Reverse_byte_byte.mono : ∀ a0 k, LeO (slices_Reverse_byte_byte.f k a0) (slices_Reverse_byte_byte.f (k + 1) a0) := by
  intro a0 k
  have ih0 := slices_Reverse_byte_byte.mono_l k
  unfold slices_Reverse_byte_byte.f
  repeat' first
      | (with_reducible exact ih0 _ _ _)
      | (with_reducible exact LeO.refl _)
      | (with_reducible exact LeO.none _)
      | (with_reducible refine LeO.ite ?_ ?_)
      | (with_reducible refine LeO.bind ?_ (fun _ => ?_))
      | exact ih0 _ _ _
      | exact LeO.none _
      | refine LeO.ite ?_ ?_
      | refine LeO.bind ?_ (fun _ => ?_)
def slices_Reverse_byte_byte.T3 : Bool × List (List Nat × List Nat) := (true, [([], []), ([], []), ([], []), ([], []), ([], []), ([], []), ([4, 5], [4, 5]), ([6], [6]), ([], []), ([], []), ([8, 9], [8, 9]), ([10], [10]), ([0, 1, 0, 1, 4, 5, 6, 7, 11], [0, 1]), ([12, 7, 0, 1, 4, 5, 6, 7, 11], [7, 12]), ([2, 3, 0, 1, 2, 3, 4, 5, 6, 7, 8, 9, 10, 11, 12, 13], [2, 3]), ([14, 11, 13, 0, 1, 2, 3, 4, 5, 6, 7, 8, 9, 10, 11, 12, 13], [11, 14])])
def slices_Reverse_byte_byte.B3 : List Nat := [0, 0, 0, 0, 0, 0, 48, 112, 0, 0, 768, 1792, 4083, 8179, 16383, 32767]
theorem slices_Reverse_byte_byte.tab3 : rtab .any (opsOf Try.f78 3) = slices_Reverse_byte_byte.T3 := by kernel_rfl
theorem slices_Reverse_byte_byte.bits3 : waitsOk slices_Reverse_byte_byte.T3.2 slices_Reverse_byte_byte.B3 = true := by kernel_rfl
set_option maxHeartbeats 8000000 in
set_option maxRecDepth 100000 in
theorem slices_Reverse_byte_byte.calls (k : Nat) (P0_ : Nat → Prop) (u9000_ : Value) (l0 : List Int) (r : List Int) (w0 w : World) (hB : Below w0.heap.size w0 w) (ho0 : Kd.R (Kd.int .u8) 5 w w0.heap.size P0_ u9000_ l0) (h : slices_Reverse_byte_byte.f k l0 = some r) :
    Calls Try.prog 78 #[u9000_] w fun e w' => e = .returned (.tuple #[]) ∧ Kd.R (Kd.int .u8) 5 w' w0.heap.size (fun k_ => (P0_ k_ ∨ w.heap.size ≤ k_)) u9000_ r ∧ Below w0.heap.size w0 w' ∧ Kept w w' (fun k_ => P0_ k_) := by
  have HO0 := Aside0.mk (show Kd.R (Kd.int .u8) 5 w w0.heap.size (fun k_ => (P0_ k_ ∨ w.heap.size ≤ k_)) u9000_ l0 from Kd.R_mono ho0 (fun k_ hk => (.inl hk)))
  have HK := Aside0.mk (Kept.refl w (fun k_ => P0_ k_))
  have HW0 := Aside0.mk hB.size
  have HB := Aside0.mk hB
  clear hB
  have H : (slices_Reverse_byte_byte.l0 k l0 0 (wrap64 ((l0.length : Int) - 1))) = some r := h
  clear h
  have H' := Aside0.mk H
  clear H
  obtain ⟨Ao2, co2, eo2⟩ := Kd.R_slice HO0.out
  subst eo2
  go_enter Try.func78, Try.ntmps78
  go_wp2
  go_loopg [2, 3] k (fun kq v2 v3 w' => ∃ (x0_1 : List Int) (x2_1 : Int) (x3_1 : Int), v2 = .int .i64 x2_1 ∧ v3 = .int .i64 x3_1 ∧ Aside0 (slices_Reverse_byte_byte.l0 kq x0_1 x2_1 x3_1 = some r) ∧ Aside0 (kq ≤ k) ∧ Aside0 (Kd.R (Kd.int .u8) 5 w' w0.heap.size (fun k_ => (P0_ k_ ∨ w.heap.size ≤ k_)) (.slice Ao2 l0.length co2) x0_1) ∧ Aside0 (Kept w w' (fun k_ => P0_ k_)) ∧ Aside0 (Below w0.heap.size w0 w'))
  case atStart => exact ⟨(l0), (0), (wrap64 ((l0.length : Int) - 1)), (by first | rfl | (simp; done) | (simp [*]; done)), (by first | rfl | (simp; done) | (simp [*]; done)), H', ⟨Nat.le_refl _⟩, ⟨by (with_reducible repeat (first | apply Kd.R_alloc | apply Kd.R_drewN | apply Kd.R_drew)); exact HO0.out⟩, ⟨by repeat (first | (with_reducible first | exact HK.out | apply Kept.alloc | apply Kept.drewN | apply Kept.drew) | exact HK.out)⟩, ⟨by repeat (first | (with_reducible first | exact HB.out | apply below_alloc | apply pw_below_drewN | apply below_drew1) | exact HB.out)⟩⟩
  case round =>
    clear H'
    try clear p2
    obtain ⟨x0_1, x2_1, x3_1, rfl, rfl, HA, HK1, HO_0, HK, HB⟩ := hrel
    have hl0_1 := (Kd.R_reads' HO_0.out).1
    rw [hl0_1] at HO_0
    (try simp only [hl0_1])
    cases gk with
    | zero => exact absurd HA.out (by simp [slices_Reverse_byte_byte.l0])
    | succ k1 =>
      have H := HA.out
      clear HA
      simp only [slices_Reverse_byte_byte.l0] at H
      by_cases c3 : x2_1 < x3_1
      · rw [if_pos c3] at H
        have c3b0 : decide (x2_1 < x3_1) = true := decide_eq_true c3
        clear c3
        by_cases c4 : 0 ≤ x3_1
        · rw [if_pos c4] at H
          have c4b0 : decide (0 ≤ x3_1) = true := decide_eq_true c4
          clear c4
          by_cases c5 : x3_1 < (x0_1.length : Int)
          · rw [if_pos c5] at H
            have c5b0 : decide (x3_1 < (x0_1.length : Int)) = true := decide_eq_true c5
            clear c5
            by_cases c6 : 0 ≤ x2_1
            · rw [if_pos c6] at H
              have c6b0 : decide (0 ≤ x2_1) = true := decide_eq_true c6
              clear c6
              by_cases c7 : x2_1 < (x0_1.length : Int)
              · rw [if_pos c7] at H
                have c7b0 : decide (x2_1 < (x0_1.length : Int)) = true := decide_eq_true c7
                clear c7
                obtain ⟨y103, hy103⟩ : ∃ y_ : List Int, y_ = (x0_1.set (x2_1 : Int).toNat (rd x0_1 x3_1)) := ⟨_, rfl⟩
                replace H : (slices_Reverse_byte_byte.l0 k1 (y103.set (x3_1 : Int).toNat (rd x0_1 x2_1)) (wrap64 (x2_1 + 1)) (wrap64 (x3_1 - 1))) = some r := by first | (rw [hy103]; with_reducible exact H) | (have H2_ := (Option.bind_some _ _).symm.trans H; rw [hy103]; with_reducible exact H2_) | (have H2_ := (Option.bind_some _ _).symm.trans H; with_reducible exact H2_) | with_reducible exact H | (rw [hy103]; exact H) | exact H
                have Ny103 := Aside0.mk hy103
                clear hy103
                obtain ⟨y104, hy104⟩ : ∃ y_ : List Int, y_ = (y103.set (x3_1 : Int).toNat (rd x0_1 x2_1)) := ⟨_, rfl⟩
                replace H : (slices_Reverse_byte_byte.l0 k1 y104 (wrap64 (x2_1 + 1)) (wrap64 (x3_1 - 1))) = some r := by first | (rw [hy104]; with_reducible exact H) | (have H2_ := (Option.bind_some _ _).symm.trans H; rw [hy104]; with_reducible exact H2_) | (have H2_ := (Option.bind_some _ _).symm.trans H; with_reducible exact H2_) | with_reducible exact H | (rw [hy104]; exact H) | exact H
                have Ny104 := Aside0.mk hy104
                clear hy104
                have H' := Aside0.mk H
                clear H
                try go_wp2
                have n0_ := Aside0.mk (Kd.R_drew HO_0.out)
                have n1_ := Aside0.mk (Kept.drew HK.out)
                have n2_ := Aside0.mk (below_drew1 HB.out)
                clear HO_0
                clear HK
                clear HB
                have HO_0 := n0_
                have HK := n1_
                have HB := n2_
                clear n0_ n1_ n2_
                have p101 : 0 ≤ (x3_1 : Int) := of_decide_eq_true (by first | (with_reducible assumption) | assumption)
                have q101 : x3_1 < (x0_1.length : Int) := of_decide_eq_true (by first | (with_reducible assumption) | assumption)
                obtain ⟨ad101, e101, hx101_0⟩ := Kd.at_int (Kd.R_reads' HO_0.out).2.2 x3_1 p101 q101
                cases e101
                replace p101 := eq_true p101
                replace q101 := eq_true q101
                have p102 : 0 ≤ (x2_1 : Int) := of_decide_eq_true (by first | (with_reducible assumption) | assumption)
                have q102 : x2_1 < (x0_1.length : Int) := of_decide_eq_true (by first | (with_reducible assumption) | assumption)
                obtain ⟨ad102, e102, hx102_0⟩ := Kd.at_int (Kd.R_reads' HO_0.out).2.2 x2_1 p102 q102
                obtain rfl : ad101 = ad102 := (by injection e102)
                replace p102 := eq_true p102
                replace q102 := eq_true q102
                have p8 : 0 ≤ (x2_1 : Int) := of_decide_eq_true (by first | (with_reducible assumption) | assumption)
                have q8 : (x2_1 : Int) < ((x0_1.length : Int) : Int) := of_decide_eq_true (by first | (with_reducible assumption) | assumption)
                obtain ⟨go8, co8, eo8, gb8, gl8, cl8, HG8⟩ := Kd.R_form HO_0.out (by omega)
                (first | cases eo8 | (injection eo8 with ea_ en_ ec_; (first | subst ea_ | (injection ea_ with ea_; subst ea_)); subst ec_; clear en_))
                have GB8 := Aside0.mk gb8
                have GG8 := Aside0.mk HG8
                clear gb8 gl8 HG8
                have HMgo8 := Aside0.mk (show (P0_ go8 ∨ w.heap.size ≤ go8) from (HO_0.out.1 _ rfl))
                (first | simp only [add_plain] at hx101_0 | skip)
                (first | simp only [add_plain] at hx102_0 | skip)
                obtain ⟨hx8_0, hf8_0⟩ := Kd.R_celln 0 HO_0.out (x2_1 : Int) p8 q8
                replace p8 := eq_true p8
                replace q8 := eq_true q8
                have HP11 := Kd.R_putn HO_0.out (x2_1 : Int) (rd x0_1 x3_1)
                rw [← Ny103.out] at HP11
                have HQ11 := Aside0.mk HP11
                clear HP11
                have p9 : 0 ≤ (x3_1 : Int) := of_decide_eq_true (by first | (with_reducible assumption) | assumption)
                have q9 : (x3_1 : Int) < ((x0_1.length : Int) : Int) := of_decide_eq_true (by first | (with_reducible assumption) | assumption)
                obtain ⟨hx9_0, hf9_0⟩ := Kd.R_celln 0 HQ11.out (x3_1 : Int) p9 q9
                replace p9 := eq_true p9
                replace q9 := eq_true q9
                have HP12 := Kd.R_putn HQ11.out (x3_1 : Int) (rd x0_1 x2_1)
                rw [← Ny104.out] at HP12
                have HQ12 := Aside0.mk HP12
                clear HP12
                refine start_ (n := 16) (S := fun w' => w'.cell? ⟨go8, (x3_1).toNat, none⟩ = some (.int .u8 (rd x0_1 x3_1)) ∧ w'.cell? ⟨go8, (x2_1).toNat, none⟩ = some (.int .u8 (rd x0_1 x2_1))) (ds := [13, 15]) #[false, false, false, false, false, false, false, false, false, false, false, false, false, false, false, false] (by kernel_rfl) rfl rfl ⟨hx101_0, hx102_0⟩ (fun hHeld => ?_); refine with_tabW slices_Reverse_byte_byte.tab3 slices_Reverse_byte_byte.bits3 (fun HT_ HW_ => ?_)
                generalize wr.drew = w10 at HO_0 HK HB GG8 HQ11 HQ12 hf8_0 hf9_0 hx101_0 hx102_0 hx8_0 hx9_0 hHeld ⊢
                refine pure_ (i := 0) (N := some 14) (v := ?_) (a' := ?_) #[true, false, false, false, false, false, false, false, false, false, false, false, false, false, false, false] rfl rfl (any_of HT_.out (by kernel_rfl)) (fun _ _ _ h => h) (Or.inl ⟨by rfl, ?_⟩) ?_ ?_
                rotate_left
                · intro w'
                  go_simp
                  with_reducible rfl
                rotate_left
                · simp only [Act.put, List.setIfInBounds_toArray, List.set_cons_zero, List.set_cons_succ, i64_w, i32_w]
                  rfl
                refine pure_ (i := 1) (N := some 15) (v := ?_) (a' := ?_) #[true, true, false, false, false, false, false, false, false, false, false, false, false, false, false, false] rfl rfl (any_of HT_.out (by kernel_rfl)) (fun _ _ _ h => h) (Or.inl ⟨by rfl, ?_⟩) ?_ ?_
                rotate_left
                · intro w'
                  go_simp
                  with_reducible rfl
                rotate_left
                · simp only [Act.put, List.setIfInBounds_toArray, List.set_cons_zero, List.set_cons_succ, i64_w, i32_w]
                  rfl
                refine pure_ (i := 2) (N := some 16) (v := ?_) (a' := ?_) #[true, true, true, false, false, false, false, false, false, false, false, false, false, false, false, false] rfl rfl (any_of HT_.out (by kernel_rfl)) (fun _ _ _ h => h) (Or.inl ⟨by rfl, ?_⟩) ?_ ?_
                rotate_left
                · intro w'
                  go_simp
                  with_reducible rfl
                rotate_left
                · simp only [Act.put, List.setIfInBounds_toArray, List.set_cons_zero, List.set_cons_succ, i64_w, i32_w]
                  rfl
                refine pure_ (i := 3) (N := some 17) (v := ?_) (a' := ?_) #[true, true, true, true, false, false, false, false, false, false, false, false, false, false, false, false] rfl rfl (any_of HT_.out (by kernel_rfl)) (fun _ _ _ h => h) (Or.inl ⟨by rfl, ?_⟩) ?_ ?_
                rotate_left
                · intro w'
                  go_simp
                  with_reducible rfl
                rotate_left
                · simp only [Act.put, List.setIfInBounds_toArray, List.set_cons_zero, List.set_cons_succ, i64_w, i32_w]
                  rfl
                refine pure_ (i := 4) (N := some 18) (v := ?_) (a' := ?_) #[true, true, true, true, true, false, false, false, false, false, false, false, false, false, false, false] rfl rfl (any_of HT_.out (by kernel_rfl)) (fun _ _ _ h => h) (Or.inl ⟨by rfl, ?_⟩) ?_ ?_
                rotate_left
                · intro w'
                  go_simp
                  with_reducible rfl
                rotate_left
                · simp only [Act.put, List.setIfInBounds_toArray, List.set_cons_zero, List.set_cons_succ, i64_w, i32_w]
                  rfl
                refine pure_ (i := 5) (N := some 19) (v := ?_) (a' := ?_) #[true, true, true, true, true, true, false, false, false, false, false, false, false, false, false, false] rfl rfl (any_of HT_.out (by kernel_rfl)) (fun _ _ _ h => h) (Or.inl ⟨by rfl, ?_⟩) ?_ ?_
                rotate_left
                · intro w'
                  go_simp
                  with_reducible rfl
                rotate_left
                · simp only [Act.put, List.setIfInBounds_toArray, List.set_cons_zero, List.set_cons_succ, i64_w, i32_w]
                  rfl
                refine pure_ (i := 6) (N := some 20) (v := ?_) (a' := ?_) #[true, true, true, true, true, true, true, false, false, false, false, false, false, false, false, false] rfl rfl (any_of HT_.out (by kernel_rfl)) (fun _ _ _ h => h) (Or.inl ⟨by rfl, ?_⟩) ?_ ?_
                rotate_left
                · intro w'
                  go_simp
                  with_reducible rfl
                rotate_left
                · simp only [Act.put, List.setIfInBounds_toArray, List.set_cons_zero, List.set_cons_succ, i64_w, i32_w]
                  rfl
                refine pure_ (i := 8) (N := some 22) (v := ?_) (a' := ?_) #[true, true, true, true, true, true, true, false, true, false, false, false, false, false, false, false] rfl rfl (any_of HT_.out (by kernel_rfl)) (fun _ _ _ h => h) (Or.inl ⟨by rfl, ?_⟩) ?_ ?_
                rotate_left
                · intro w'
                  go_simp
                  with_reducible rfl
                rotate_left
                · simp only [Act.put, List.setIfInBounds_toArray, List.set_cons_zero, List.set_cons_succ, i64_w, i32_w]
                  rfl
                refine pure_ (i := 9) (N := some 23) (v := ?_) (a' := ?_) #[true, true, true, true, true, true, true, false, true, true, false, false, false, false, false, false] rfl rfl (any_of HT_.out (by kernel_rfl)) (fun _ _ _ h => h) (Or.inl ⟨by rfl, ?_⟩) ?_ ?_
                rotate_left
                · intro w'
                  go_simp
                  with_reducible rfl
                rotate_left
                · simp only [Act.put, List.setIfInBounds_toArray, List.set_cons_zero, List.set_cons_succ, i64_w, i32_w]
                  rfl
                refine pure_ (i := 10) (N := some 24) (v := ?_) (a' := ?_) #[true, true, true, true, true, true, true, false, true, true, true, false, false, false, false, false] rfl rfl (any_of HT_.out (by kernel_rfl)) (fun _ _ _ h => h) (Or.inl ⟨by rfl, ?_⟩) ?_ ?_
                rotate_left
                · intro w'
                  go_simp
                  with_reducible rfl
                rotate_left
                · simp only [Act.put, List.setIfInBounds_toArray, List.set_cons_zero, List.set_cons_succ, i64_w, i32_w]
                  rfl
                refine take_ (i := 7) (N := some 21) (v := ?_) (a' := ?_) #[true, true, true, true, true, true, true, true, true, true, true, false, false, false, false, false] rfl rfl (take_ofW HT_.out HW_.out (by kernel_rfl)) (fun _ _ _ h => h) (Or.inl ⟨by rfl, ?_⟩) hHeld ?_ ?_
                rotate_left
                · rintro w' ⟨s0, s1⟩
                  go_simp
                  with_reducible rfl
                rotate_left
                · simp only [Act.put, List.setIfInBounds_toArray, List.set_cons_zero, List.set_cons_succ, i64_w, i32_w]
                  rfl
                refine take_ (i := 11) (N := some 25) (v := ?_) (a' := ?_) #[true, true, true, true, true, true, true, true, true, true, true, true, false, false, false, false] rfl rfl (take_ofW HT_.out HW_.out (by kernel_rfl)) (fun _ _ _ h => h) (Or.inl ⟨by rfl, ?_⟩) hHeld ?_ ?_
                rotate_left
                · rintro w' ⟨s0, s1⟩
                  go_simp
                  with_reducible rfl
                rotate_left
                · simp only [Act.put, List.setIfInBounds_toArray, List.set_cons_zero, List.set_cons_succ, i64_w, i32_w]
                  rfl
                refine pure_ (i := 12) (N := some 26) (v := ?_) (a' := ?_) #[true, true, true, true, true, true, true, true, true, true, true, true, true, false, false, false] rfl rfl (any_of HT_.out (by kernel_rfl)) (fun _ _ _ h => h) (Or.inl ⟨by rfl, ?_⟩) ?_ ?_
                rotate_left
                · intro w'
                  go_simp
                  with_reducible rfl
                rotate_left
                · simp only [Act.put, List.setIfInBounds_toArray, List.set_cons_zero, List.set_cons_succ, i64_w, i32_w]
                  rfl
                refine last_ (i := 13) (N := none) #[true, true, true, true, true, true, true, true, true, true, true, true, true, true, false, false] rfl rfl (one_of HT_.out (by kernel_rfl)) (by decide) (fun K hK => ?_)
                refine skip_ (w1 := ?_) (by rfl) rfl ?_ ?_
                rotate_left
                · go_simp
                  rfl
                refine hK.out _ _ ?_
                clear hK K
                refine pure_ (i := 14) (N := some 27) (v := ?_) (a' := ?_) #[true, true, true, true, true, true, true, true, true, true, true, true, true, true, true, false] rfl rfl (any_of HT_.out (by kernel_rfl)) (fun _ _ _ h => h) (Or.inl ⟨by rfl, ?_⟩) ?_ ?_
                rotate_left
                · intro w'
                  go_simp
                  with_reducible rfl
                rotate_left
                · simp only [Act.put, List.setIfInBounds_toArray, List.set_cons_zero, List.set_cons_succ, i64_w, i32_w]
                  rfl
                refine last_ (i := 15) (N := none) #[true, true, true, true, true, true, true, true, true, true, true, true, true, true, true, true] rfl rfl (one_of HT_.out (by kernel_rfl)) (by decide) (fun K hK => ?_)
                refine skip_ (w1 := ?_) (by rfl) rfl ?_ ?_
                rotate_left
                · go_simp
                  rfl
                refine hK.out _ _ ?_
                clear hK K
                refine done_ (done_of HT_.out (by kernel_rfl)) ?_
                try go_wp2
                (try simp only [← hl0_1])
                go_roundg k1
                case measure => have := HK1.out; omega
                case rel => exact ⟨(y104), (wrap64 (x2_1 + 1)), (wrap64 (x3_1 - 1)), (by first | rfl | (simp; done) | (simp [*]; done)), (by first | rfl | (simp; done) | (simp [*]; done)), H', ⟨by have := HK1.out; omega⟩, ⟨by (try simp only [hl0_1]); (with_reducible repeat (first | apply Kd.R_alloc | apply Kd.R_drewN | apply Kd.R_drew)); exact HQ12.out⟩, ⟨by repeat (first | (with_reducible first | exact HK.out | apply Kept.alloc | apply Kept.drewN | apply Kept.drew | refine Kept.setCell ?_ HMgo8.out _ | refine Kept.setCell ?_ HMgo8.out _) | exact HK.out)⟩, ⟨by repeat (first | (with_reducible first | exact HB.out | apply below_alloc | apply pw_below_drewN | apply below_drew1 | refine below_set ?_ GB8.out | refine below_set ?_ GB8.out) | exact HB.out)⟩⟩
              · rw [if_neg c7] at H
                exact absurd H (by simp)
            · rw [if_neg c6] at H
              exact absurd H (by simp)
          · rw [if_neg c5] at H
            exact absurd H (by simp)
        · rw [if_neg c4] at H
          exact absurd H (by simp)
      · rw [if_neg c3] at H
        have c3b0 : decide (x2_1 < x3_1) = false := decide_eq_false c3
        clear c3
        obtain rfl := Option.some.inj H
        go_wp2
        first | go_end0 | ((try simp only [Exit.inBlock, Exit.then]); refine bodyPost_ret (results_none rfl _ _ _) rfl ?_)
        exact ⟨by first | rfl | (simp [errW_none, errW_some] <;> rfl) | (simp [*, errW_none, errW_some] <;> rfl), (by first | exact (by (with_reducible repeat (first | apply Kd.R_alloc | apply Kd.R_drewN | apply Kd.R_drew)); exact HO_0.out) | (simp only [hl0_1]; exact (by (with_reducible repeat (first | apply Kd.R_alloc | apply Kd.R_drewN | apply Kd.R_drew)); exact HO_0.out))), by repeat (first | (with_reducible first | exact HB.out | apply below_alloc | apply pw_below_drewN | apply below_drew1) | exact HB.out), by repeat (first | (with_reducible first | exact HK.out | apply Kept.alloc | apply Kept.drewN | apply Kept.drew) | exact HK.out)⟩

end Go.Proofs.Ytkncmbbkehnagaa.PAll

set_option linter.unusedVariables false
set_option linter.unusedSimpArgs false
/-! slices.Grow of nil; slices.Concat. -/
namespace Go.Proofs.Ytkncmbbkehnagaa.Cc
open Go.RowKit Go.Proofs.YtkncmbbkehnagaaW.PrintWords Go.Proofs.YtkncmbbkehnagaaW.PrintLast Go.Proofs.YtkncmbbkehnagaaW.PrintMore Go.Proofs.Ytkncmbbkehnagaa.PAll
attribute [local go_sem] max2_int min2_int max_two min_two max_three min_three max_four min_four

set_option maxHeartbeats 2000000 in
set_option maxRecDepth 100000 in
theorem grow0 (w : World) : Calls Try.prog 80 #[.slice none 0 0, .int .i64 0] w fun e w' => e = .returned (.slice none 0 0) ∧ w' = w := by
  go_enter Try.func80, Try.ntmps80
  go_wp2
  go_ret
  exact ⟨rfl, rfl⟩

set_option maxHeartbeats 4000000 in
set_option maxRecDepth 100000 in
theorem grow1 (w : World) (n : Nat) (hn : 0 < n) (hl : n ≤ 140737488355328) : Calls Try.prog 80 #[.slice none 0 0, .int .i64 n] w fun e w' => ∃ v : Value, e = .returned v ∧ Kd.R (Kd.int .u8) 5 w' w.heap.size (fun _ => True) v [] ∧ Below w.heap.size w w' := by
  obtain ⟨i0, hi0, hz0, hz1, hz2⟩ := info_parts info5
  have h1 : ¬ ((n : Int) < 0) := by omega
  have h3 : wrap64 ((n : Int) - 0) = (n : Int) := by unfold wrap64; omega
  have h4 : (n : Int) > 0 := by omega
  have hold : (Builtin.firstCells i0.size 0 (.slice none 0 0)).run Try.prog w.drew = .ok #[] w.drew := run_firstCells_none w.drew i0.size 0 0 0
  have hrz : ∀ ty, (Builtin.append_ #[26, 3] ty #[.slice none 0 0, .int .i64 (n : Int)]).run Try.prog w =
      .ok (.slice (some ⟨w.heap.size, 0, none⟩) n (grownCap w n 0 5)) (w.drew.alloc (.cells (#[] ++ Builtin.zeroCells (Value.int .u8 0).cells n ++ Builtin.zeroCells (Value.int .u8 0).cells (grownCap w n 0 5 - n)) 5)) := fun ty => by
    have h := Lib.run_append_grow_zeros w 26 3 ty 5 i0 (.int .u8 0) .i64 .i64 Try.underlying26 Try.underlying3 hi0 hz0 none 0 0 [] hold n (by omega) (by omega) (by omega) (by omega)
      (by rw [hz2]; omega)
      (growslice_fits (by omega) (by rw [hz2]; omega))
    simpa using h
  have hG := grownCap_ge w n 0 5
  obtain ⟨G, hG0⟩ : ∃ G, G = grownCap w n 0 5 := ⟨_, rfl⟩
  have hG2 : G ≤ maxLen := by
    have := grownCap_le_maxLen w n 0 5 (by unfold maxLen; omega)
    rw [← hG0] at this
    exact this
  rw [← hG0] at hrz hG
  clear hold hG0 hi0 hz0 hz1 hz2
  go_enter Try.func80, Try.ntmps80
  go_wp2_with (at_builtin; refine Lib.wpList_append_run _ rfl _ _ _ _ rfl _ _ rfl rfl _ _ (hrz _) ?_)
  go_ret
  refine ⟨_, rfl, Kd.R_of_own (xs := []) ⟨by simp [encs], .inr ⟨w.heap.size, G, _, rfl, Nat.le_refl _, blk_new w.drew _, Nat.zero_le _, hG2, ?_, by simp [encs]⟩⟩ (fun _ _ => trivial), below_alloc (below_drew (Below.refl _ _)) _⟩
  simp [Builtin.zeroCells, Value.cells]
  omega

def bound : Nat := 1000000
def lens : List (List Int) → Nat
  | [] => 0
  | x :: l => x.length + lens l
theorem lens_append : ∀ a b : List (List Int), lens (a ++ b) = lens a + lens b
  | [], b => by simp [lens]
  | x :: a, b => by simp only [List.cons_append, lens, lens_append a b]; omega
theorem lens_flat : ∀ a : List (List Int), a.flatten.length = lens a
  | [] => rfl
  | x :: a => by simp [lens, lens_flat a]
theorem lens_take (l : List (List Int)) (j : Nat) (h : j < l.length) : lens (l.take (j + 1)) = lens (l.take j) + (l.getD j []).length := by
  rw [List.take_succ_eq_append_getElem h, lens_append, List.getD_eq_getElem?_getD, List.getElem?_eq_getElem h]
  simp [lens]
theorem flat_take (l : List (List Int)) (j : Nat) (h : j < l.length) : (l.take (j + 1)).flatten = (l.take j).flatten ++ l.getD j [] := by
  rw [List.take_succ_eq_append_getElem h, List.getD_eq_getElem?_getD, List.getElem?_eq_getElem h, List.flatten_append]
  simp
theorem lens_take_le (l : List (List Int)) (j : Nat) : lens (l.take j) ≤ lens l := by
  have := lens_append (l.take j) (l.drop j)
  rw [List.take_append_drop] at this
  omega

set_option maxHeartbeats 4000000 in
set_option maxRecDepth 100000 in
theorem concat (A0 : Option Addr) (c0 : Nat) (l0 : List (List Int)) (w : World) (hr0 : Kd.C (Kd.slice 5 (Kd.int .u8)) w A0 l0.length l0) (hc0 : l0.length ≤ c0) (hl : l0.length ≤ 1000000) (hs : lens l0 ≤ 1000000) :
    Calls Try.prog 79 #[.slice A0 l0.length c0] w fun e w' => ∃ v0_ : Value, e = .returned (v0_) ∧ Kd.R (Kd.int .u8) 5 w' w.heap.size (fun _ => True) v0_ l0.flatten ∧ Below w.heap.size w w' := by
  have HR0 := Aside0.mk hr0
  have HC0 := Aside0.mk hc0
  have HS := Aside0.mk hs
  have HL := Aside0.mk hl
  clear hr0 hc0 hs hl
  go_enter Try.func79, Try.ntmps79
  go_wp2
  go_loopw [3, 11] (fun v3 v11 wr => ∃ j : Nat, j ≤ l0.length ∧ v11 = .int .i64 (j : Int) ∧ v3 = .int .i64 ((lens (l0.take j) : Nat) : Int) ∧ Aside0 (Below w.heap.size w wr)) (fun _ v11 _ => l0.length - (intOf v11).toNat)
  case atStart => exact ⟨0, Nat.zero_le _, rfl, by simp [lens], ⟨Below.refl _ _⟩⟩
  case round =>
    obtain ⟨j, hj, rfl, rfl, HB⟩ := hrel
    have hlim := HL.out
    by_cases hlt : j < l0.length
    · obtain ⟨ad, A1, c1, e1, hx, hlc, hi⟩ := at_L1 HR0.out (j : Int) (by omega) (by omega)
      cases e1
      have hx2 := pw_cell_below HB.out hx
      have h1 := lens_take l0 j hlt
      have h2 := lens_take_le l0 (j + 1)
      have h3 := HS.out
      have h4 : (rd_L1 l0 (j : Int)).length = (l0.getD j []).length := by simp [rd_L1]
      rw [h4] at hx2
      have hw : wrap64 (((lens (l0.take j) : Nat) : Int) + ((l0.getD j []).length : Int)) = ((lens (l0.take (j + 1)) : Nat) : Int) := by unfold wrap64; omega
      have hn : ¬ (((lens (l0.take (j + 1)) : Nat) : Int) < 0) := by omega
      have hw2 : wrap64 ((j : Int) + 1) = ((j + 1 : Nat) : Int) := by unfold wrap64; omega
      clear hx h1 h2 h3 h4 hi hlc
      simp only [Int.toNat_natCast] at hx2
      obtain ⟨m, hm⟩ : ∃ m, (l0.getD j []).length = m := ⟨_, rfl⟩
      rw [hm] at hx2 hw
      clear hm
      go_wp2
      go_roundw
      case measure => simp only [intOf]; omega
      case rel => exact ⟨j + 1, by omega, by first | rfl | rw [hw2], by first | rfl | rw [hw], HB⟩
    · have he : j = l0.length := by omega
      subst he
      have hn : ¬ (((l0.length : Nat) : Int) < (l0.length : Int)) := by omega
      rw [List.take_length]
      obtain ⟨s, hse⟩ : ∃ s, lens l0 = s := ⟨_, rfl⟩
      rw [hse] at HS ⊢
      have grow : ∀ W : World, Calls Try.prog 80 #[.slice none 0 0, .int .i64 (s : Int)] W fun e w' => ∃ v : Value, e = .returned v ∧ Kd.R (Kd.int .u8) 5 w' W.heap.size (fun _ => True) v [] ∧ Below W.heap.size W w' := fun W => by
        rcases Nat.eq_zero_or_pos s with h | h
        · subst h
          refine (grow0 W).mono ?_
          rintro e w' ⟨rfl, rfl⟩
          exact ⟨_, rfl, Kd.R_nil _ _ _ _ _, Below.refl _ _⟩
        · exact grow1 W s h (by have := HS.out; omega)
      go_wp2_with (go_at_call 80; refine (grow _).mono ?_; rintro e w2 ⟨v, rfl, hR, hb⟩; have HR := Aside0.mk (Kd.R_lower hR (below_size HB.out)); have HB2 := Aside0.mk (below_step HB.out hb); clear hR hb)
      clear HB
      go_loopw [6, 27] (fun v6 v27 wr => ∃ j : Nat, j ≤ l0.length ∧ v27 = .int .i64 (j : Int) ∧ Aside0 (Kd.R (Kd.int .u8) 5 wr w.heap.size (fun _ => True) v6 (l0.take j).flatten) ∧ Aside0 (Below w.heap.size w wr)) (fun _ v27 _ => l0.length - (intOf v27).toNat)
      case atStart => exact ⟨0, Nat.zero_le _, rfl, ⟨by simpa using HR.out⟩, HB2⟩
      case round =>
        clear HB2 HR
        obtain ⟨j, hj, rfl, HR, HB⟩ := hrel
        by_cases hlt : j < l0.length
        · obtain ⟨ad, A1, c1, e1, hx, hlc, hi⟩ := at_L1 HR0.out (j : Int) (by omega) (by omega)
          cases e1
          have hx2 := pw_cell_below HB.out hx
          have HI := Aside0.mk (Kd.C_below hi HB.out)
          have h4 : rd_L1 l0 (j : Int) = l0.getD j [] := by simp [rd_L1]
          rw [h4] at hx2 HI
          have HF := Aside0.mk (flat_take l0 j hlt)
          have HLim := Aside0.mk (show (l0.take j).flatten.length + (l0.getD j []).length ≤ 1000000 by
            have h1 := lens_take l0 j hlt
            have h2 := lens_take_le l0 (j + 1)
            have h3 := HS.out
            rw [lens_flat]
            omega)
          have hw2 : wrap64 ((j : Int) + 1) = ((j + 1 : Nat) : Int) := by unfold wrap64; omega
          clear hx h4 hi hlc
          simp only [Int.toNat_natCast] at hx2
          obtain ⟨m, hm⟩ : ∃ m, l0.getD j [] = m := ⟨_, rfl⟩
          rw [hm] at hx2 HI HF HLim
          clear hm
          go_wp2_with ((with_reducible refine gate_builtin (b := .append) (xs := #[.tmp 31, .tmp 32]) rfl ?_); at_builtin; refine Kd.R_append_rows (Kd.int .u8) (w0 := w) w.heap.size rfl (.tmp 31) (.tmp 32) 26 5 (.int .u8 0) 1 rfl Try.underlying26 info5 rfl (by decide) (by omega) u6 (l0.take j).flatten m _ _ _ (fun _ => True) (fun _ => False) rfl rfl HR.out HI.out (fun _ _ h => h) (fun _ h => h.elim) (fun _ _ => trivial) HB.out (below_size HB.out) ?aL ?_; (case aL => have := HLim.out; omega); intro v107 w6 ho hb hg hat; have HO := Aside0.mk ho; have HB3 := Aside0.mk hb; clear ho hb hg hat)
          go_roundw
          case measure => simp only [intOf]; omega
          case rel => exact ⟨j + 1, by omega, rfl, ⟨by rw [HF.out]; exact HO.out⟩, HB3⟩
        · have he : j = l0.length := by omega
          subst he
          rw [List.take_length] at HR
          go_wp2
          go_ret
          exact ⟨_, rfl, HR.out, HB.out⟩
end Go.Proofs.Ytkncmbbkehnagaa.Cc
namespace Go.Proofs.Ytkncmbbkehnagaa.PAll
open Go.RowKit Go.Proofs.YtkncmbbkehnagaaW.PrintWords Go.Proofs.YtkncmbbkehnagaaW.PrintLast Go.Proofs.YtkncmbbkehnagaaW.PrintMore
def slices_Concat_byte_byte.f (k : Nat) (l0 : List (List Int)) : Option (List Int) := if l0.length ≤ 1000000 ∧ Cc.lens l0 ≤ 1000000 then some l0.flatten else none
theorem slices_Concat_byte_byte.mono : ∀ a0 k, LeO (slices_Concat_byte_byte.f k a0) (slices_Concat_byte_byte.f (k + 1) a0) := fun _ _ => LeO.refl _
theorem slices_Concat_byte_byte.calls (k : Nat) (A0 : Option Addr) (c0 : Nat) (l0 : List (List Int)) (r : List Int) (w : World) (hr0 : Kd.C (Kd.slice 5 (Kd.int .u8)) w A0 l0.length l0) (hc0 : l0.length ≤ c0) (h : slices_Concat_byte_byte.f k l0 = some r) :
    Calls Try.prog 79 #[.slice A0 l0.length c0] w fun e w' => ∃ v0_ : Value, e = .returned (v0_) ∧ Kd.R (Kd.int .u8) 5 w' w.heap.size (fun _ => True) v0_ r ∧ Below w.heap.size w w' := by
  unfold slices_Concat_byte_byte.f at h
  split at h
  · rename_i hh
    obtain rfl := Option.some.inj h
    exact Cc.concat A0 c0 l0 w hr0 hc0 hh.1 hh.2
  · cases h
end Go.Proofs.Ytkncmbbkehnagaa.PAll
namespace Go.Proofs.Ytkncmbbkehnagaa.Cc
open Go.RowKit Go.Proofs.YtkncmbbkehnagaaW.PrintWords Go.Proofs.YtkncmbbkehnagaaW.PrintLast Go.Proofs.YtkncmbbkehnagaaW.PrintMore Go.Proofs.Ytkncmbbkehnagaa.PAll
theorem new_cell (w : World) (cs : Array Value) (t : TypeId) (j : Nat) (v : Value) (h : cs[j]? = some v) (fr : Nat × Nat := (0, 0)) : (w.alloc (.cells cs t fr)).cell? ((⟨w.heap.size, 0, none⟩ : Addr).add j) = some v := by
  have h1 := blk_new w (.cells cs t fr)
  by_cases hj : j = 0
  · subst hj
    simp only [World.cell?, Addr.add, ↓reduceIte, h1, h, Option.isSome_none, Bool.false_eq_true]
  · simp only [World.cell?, Addr.add, ↓reduceIte, hj, Nat.zero_add, h1, h, Option.isSome_none, Bool.false_eq_true]
theorem pair_C {w : World} {A0 A1 : Option Addr} {c0 c1 : Nat} {l t : List Int} (h0 : l.length ≤ c0) (k0 : Kd.C (Kd.int .u8) w A0 l.length l) (h1 : t.length ≤ c1) (k1 : Kd.C (Kd.int .u8) w A1 t.length t) :
    Kd.C (Kd.slice 5 (Kd.int .u8)) (w.alloc (.cells #[.slice A0 l.length c0, .slice A1 t.length c1] 26)) (some ⟨w.heap.size, 0, none⟩) 2 [l, t] := by
  refine ⟨rfl, by omega, fun _ => ⟨_, rfl, fun j p hp => ?_⟩⟩
  match j, hp with
  | 0, hp =>
    obtain rfl : l = p := by simpa using hp
    refine ⟨[.slice A0 l.length c0], rfl, ⟨A0, c0, rfl, h0, Kd.C_alloc k0 _⟩, fun i u hu => ?_⟩
    match i, hu with
    | 0, hu =>
      obtain rfl : _ = u := by simpa using hu
      exact new_cell w _ 26 0 _ rfl
    | i + 1, hu => simp at hu
  | 1, hp =>
    obtain rfl : t = p := by simpa using hp
    refine ⟨[.slice A1 t.length c1], rfl, ⟨A1, c1, rfl, h1, Kd.C_alloc k1 _⟩, fun i u hu => ?_⟩
    match i, hu with
    | 0, hu =>
      obtain rfl : _ = u := by simpa using hu
      exact new_cell w _ 26 1 _ rfl
    | i + 1, hu => simp at hu
  | j + 2, hp => simp at hp
end Go.Proofs.Ytkncmbbkehnagaa.Cc

