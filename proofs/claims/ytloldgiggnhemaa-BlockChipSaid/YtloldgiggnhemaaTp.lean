import Derived.Test.YtloldgiggnhemaaOw
set_option linter.unusedVariables false
set_option linter.unusedSimpArgs false
/-! ChipTorn, plainly. -/
namespace Go.Proofs.Ytloldgiggnhemaa.Cm
open Go.RowKit Go.Proofs.YtloldgiggnhemaaW.PrintWords Go.Proofs.YtloldgiggnhemaaW.PrintLast Go.Proofs.YtloldgiggnhemaaW.PrintMore Go.Proofs.Ytloldgiggnhemaa.Kp Go.Proofs.Ytloldgiggnhemaa.Cp

/-- Behind the first half: block 0 was begun; of block 1, i pages hold one byte. -/
structure TQ (s : Chp) (pg i : Nat) : Prop where
  blk : ∃ B0 B1, s.blocks = [B0, B1] ∧ B0.next = 1 ∧ (∀ xs ∈ B0.pages, xs.length ≤ 100000) ∧ B1.bad = false ∧ B1.next = i ∧ B1.count = 0 ∧ B1.pages = List.replicate i [7] ++ List.replicate (pg - i) []
  pages : s.pages = pg
  down : s.down = false
  cut : s.cut = -1
  fail : s.fail = -1
  worn : s.worn = -1
theorem has_two {s : Chp} {B C : Blk} (h : s.blocks = [B, C]) : hasB s 0 = true ∧ hasB s 1 = true := by
  unfold hasB
  rw [h]
  exact ⟨rfl, rfl⟩
theorem spot_of {s : Chp} {b : Int} {p pg : Nat} (h : hasB s b = true) (hp : s.pages = pg) (hlt : p < pg) : spotB s b (p : Int) = true := by
  unfold spotB
  rw [h, hp, decide_eq_true (show (0 : Int) ≤ p by omega), decide_eq_true (show (p : Int) < pg by omega)]
  rfl
theorem dec_never0 : dec 0 = -1 := by kernel_rfl
def t1 (pg : Nat) (k : Nat) : Chp := cutS (newS 2 pg []) 0 (k : Int)
def t2 (pg k : Nat) (b : List Int) : Chp := (progS (t1 pg k) 0 0 b).1
def t4 (pg k : Nat) (b : List Int) : Chp := powerS (readS (t2 pg k b) 0 0)
def t5 (pg k : Nat) (b : List Int) : Chp := readS (t4 pg k b) 0 0
theorem t1_keep (pg k : Nat) : (t1 pg k).keep = (k : Int) := by
  show (if (k : Int) < 0 then (0 : Int) else k) = k
  rw [if_neg (by omega)]
theorem t2_eq (pg k : Nat) (b : List Int) (hp : 1 ≤ pg) (h1 : 1 ≤ b.length) (h2 : b.length ≤ 2000) : progS (t1 pg k) 0 0 b = ({ (bump (t1 pg k) 0).mod 0 (pageB 0 (b.take k)) with down := true }, 2) := by
  rw [progS_L _ _ _ h1 h2]
  unfold progL
  have hs : spotB (t1 pg k) 0 0 = true := spot_of (p := 0) (pg := pg) (has_two (s := t1 pg k) rfl).1 rfl hp
  rw [hs, if_pos rfl]
  rw [show (t1 pg k).down = false from rfl, if_neg (by decide)]
  show (if false = true then ((t1 pg k), (3 : Int)) else if (0 : Int) ≠ 0 then (t1 pg k, 4) else if (0 : Int) = 0 then ({ (bump (t1 pg k) 0).mod 0 (pageB 0 (b.take (t1 pg k).keep.toNat)) with down := true }, 2) else _) = _
  rw [if_neg (by decide), if_neg (by decide), if_pos rfl, t1_keep]
  rfl
def tB0 (pg k : Nat) (b : List Int) : Blk := ⟨false, 1, 0, (List.replicate pg []).set 0 (b.take k)⟩
def tB1 (pg : Nat) : Blk := ⟨false, 0, 0, List.replicate pg []⟩
theorem t2_blocks (pg k : Nat) (b : List Int) (hp : 1 ≤ pg) (h1 : 1 ≤ b.length) (h2 : b.length ≤ 2000) : (t2 pg k b).blocks = [tB0 pg k b, tB1 pg] ∧ (t2 pg k b).down = true ∧ (t2 pg k b).pages = pg ∧ (t2 pg k b).cut = -1 ∧ (t2 pg k b).fail = -1 ∧ (t2 pg k b).worn = -1 := by
  unfold t2
  rw [t2_eq pg k b hp h1 h2]
  refine ⟨?_, rfl, rfl, dec_never0, dec_never, rfl⟩
  show [pageB 0 (b.take k) (nextB ⟨_, 0, 0, List.replicate pg []⟩), _] = _
  have e : nextB ⟨([] : List Int).contains ((0 : Nat) : Int), 0, 0, List.replicate pg []⟩ = ⟨false, 1, 0, List.replicate pg []⟩ := by
    unfold nextB
    rw [show wrap64 ((0 : Int) + 1) = 1 from wrap_small _ (by decide) (by decide)]
    rfl
  exact congrArg (fun z => [pageB 0 (b.take k) z, tB1 pg]) e
theorem t3_same (pg k : Nat) (b : List Int) (hp : 1 ≤ pg) (h1 : 1 ≤ b.length) (h2 : b.length ≤ 2000) : readS (t2 pg k b) 0 0 = t2 pg k b ∧ readE (t2 pg k b) 0 0 = 2 ∧ readX (t2 pg k b) 0 0 = [] := by
  obtain ⟨hb, hd, hpg, -⟩ := t2_blocks pg k b hp h1 h2
  have hs : spotB (t2 pg k b) 0 0 = true := spot_of (p := 0) (has_two hb).1 hpg hp
  unfold readS readE readX
  rw [hs, hd, if_neg (by simp), if_pos rfl, if_pos rfl, if_neg (by simp)]
  exact ⟨rfl, rfl, rfl⟩
theorem t4_facts (pg k : Nat) (b : List Int) (hp : 1 ≤ pg) (h1 : 1 ≤ b.length) (h2 : b.length ≤ 2000) : readE (t4 pg k b) 0 0 = 0 ∧ readX (t4 pg k b) 0 0 = b.take k ∧ TQ (t5 pg k b) pg 0 := by
  obtain ⟨hb, hd, hpg, hc, hf, hw⟩ := t2_blocks pg k b hp h1 h2
  obtain ⟨e3, -⟩ := t3_same pg k b hp h1 h2
  have hb4 : (t4 pg k b).blocks = [tB0 pg k b, tB1 pg] := by unfold t4; rw [e3]; exact hb
  have hpg4 : (t4 pg k b).pages = pg := by unfold t4; rw [e3]; exact hpg
  have hs : spotB (t4 pg k b) 0 0 = true := spot_of (p := 0) (has_two hb4).1 hpg4 hp
  have hd4 : (t4 pg k b).down = false := rfl
  refine ⟨?_, ?_, ?_⟩
  · unfold readE
    rw [hs, hd4]
    rfl
  · unfold readX
    rw [hs, hd4, if_pos (by simp)]
    unfold pageOf
    rw [hb4]
    obtain ⟨m, rfl⟩ : ∃ m, pg = m + 1 := ⟨pg - 1, by omega⟩
    rfl
  · have e5 : t5 pg k b = { t4 pg k b with br := wrap64 ((t4 pg k b).br + 1) } := by
      unfold t5 readS
      rw [hs, if_pos ⟨rfl, hd4⟩]
    rw [e5]
    refine ⟨⟨tB0 pg k b, tB1 pg, hb4, rfl, ?_, rfl, rfl, rfl, rfl⟩, hpg4, rfl, rfl, ?_, ?_⟩
    · refine set_mem (by rw [List.length_take]; omega) (fun xs hx => ?_)
      rw [List.eq_of_mem_replicate hx]
      exact Nat.zero_le _
    · show (t4 pg k b).fail = -1
      unfold t4
      rw [e3]
      exact hf
    · show (t4 pg k b).worn = -1
      unfold t4
      rw [e3]
      exact hw
theorem tq_blk0 {s : Chp} {pg i : Nat} (h : TQ s pg i) : (blockB s 0).next = 1 ∧ ∀ xs ∈ (blockB s 0).pages, xs.length ≤ 100000 := by
  obtain ⟨B0, B1, hB, h1, h2, -⟩ := h.blk
  have e : blockB s 0 = B0 := by
    unfold blockB
    rw [(has_two hB).1, if_pos rfl, hB]
    rfl
  rw [e]
  exact ⟨h1, h2⟩
theorem tq_prog {s : Chp} {pg i : Nat} (h : TQ s pg i) (hi : i < pg) (hpg : pg ≤ 100) : (progS s 1 (i : Int) [7]).2 = 0 ∧ TQ (progS s 1 (i : Int) [7]).1 pg (i + 1) := by
  obtain ⟨B0, B1, hB, h1, h2, hbad, hnx, hct, hp⟩ := h.blk
  have e : progS s 1 (i : Int) [7] = ((bump s 1).mod 1 (pageB i [7]), 0) := by
    rw [progS_L _ _ _ (by decide) (by decide)]
    unfold progL
    rw [spot_of (has_two hB).2 h.pages hi, if_pos rfl, h.down, if_neg (by decide), hB]
    show (if B1.bad = true then (s, 3) else if (i : Int) ≠ B1.next then (s, 4) else _) = _
    rw [hbad, if_neg (by decide), hnx, if_neg (by simp), h.cut, if_neg (by decide), h.fail, if_neg (by decide)]
    rfl
  rw [e]
  refine ⟨rfl, ⟨B0, pageB i [7] (nextB B1), ?_, h1, h2, hbad, ?_, hct, ?_⟩, h.pages, h.down, ?_, ?_, h.worn⟩
  · show (s.blocks.modify 1 nextB).modify 1 (pageB i [7]) = _
    rw [hB]
    rfl
  · show wrap64 (B1.next + 1) = _
    rw [hnx]
    exact wrap_small _ (by omega) (by omega)
  · show B1.pages.set i [7] = _
    rw [hp, List.set_append, if_neg (by simp), List.length_replicate, Nat.sub_self]
    obtain ⟨m, hm⟩ : ∃ m, pg - i = m + 1 := ⟨pg - i - 1, by omega⟩
    rw [hm, show pg - (i + 1) = m by omega, List.replicate_succ, List.set_cons_zero, List.replicate_succ', List.append_assoc]
    rfl
  · show dec s.cut = -1
    rw [h.cut, dec_never]
  · show dec s.fail = -1
    rw [h.fail, dec_never]
/-- The block that was torn. -/
def TY (pg k : Nat) (B : Blk) : Prop := B.count = 1 ∧ B.next = (if k < pg then (pg : Int) else 0) ∧ B.pages.length = pg ∧ ∀ j, j < pg → B.pages[j]? = some (if j < k then [] else [7])
theorem tq_end {s : Chp} {pg k : Nat} (h : TQ s pg pg) (hpg : pg ≤ 100) : (eraseS (cutS s 0 (k : Int)) 1).2 = 2 ∧ TY pg k (blockB (powerS (eraseS (cutS s 0 (k : Int)) 1).1) 1) := by
  obtain ⟨B0, B1, hB, h1, h2, hbad, hnx, hct, hp⟩ := h.blk
  rw [Nat.sub_self, List.replicate_zero, List.append_nil] at hp
  have hk : (cutS s 0 (k : Int)).keep = k := by
    show (if (k : Int) < 0 then (0 : Int) else k) = k
    rw [if_neg (by omega)]
  have e0 : eraseS (cutS s 0 (k : Int)) 1 = erS (cutS s 0 (k : Int)) 1 := by
    unfold eraseS
    have hh : hasB (cutS s 0 (k : Int)) 1 = true := (has_two (s := cutS s 0 (k : Int)) hB).2
    have hd : (cutS s 0 (k : Int)).down = false := h.down
    have hb2 : (cutS s 0 (k : Int)).blocks = [B0, B1] := hB
    rw [hh, if_pos rfl, hd, if_neg (by decide), hb2]
    show (if B1.bad = true then (cutS s 0 (k : Int), 3) else erS (cutS s 0 (k : Int)) 1) = _
    rw [hbad, if_neg (by decide)]
  have hw : wrap64 (B1.count + 1) = 1 := by rw [hct]; exact wrap_small _ (by decide) (by decide)
  have hpp : (cutS s 0 (k : Int)).pages = pg := h.pages
  rw [e0]
  unfold erS
  rw [show (cutS s 0 (k : Int)).cut = 0 from rfl, if_pos rfl, hk, hpp]
  by_cases hlt : k < pg
  · rw [if_pos (show (k : Int) < pg by omega)]
    refine ⟨rfl, ?_⟩
    have e : blockB (powerS { ((ebump (cutS s 0 (k : Int)) 1).mod 1 (clrB (k : Int).toNat)).mod 1 (setN (pg : Int)) with down := true }) 1 = setN (pg : Int) (clrB k (countB B1)) := by
      have hb3 : (powerS { ((ebump (cutS s 0 (k : Int)) 1).mod 1 (clrB (k : Int).toNat)).mod 1 (setN (pg : Int)) with down := true }).blocks = [B0, setN (pg : Int) (clrB k (countB B1))] := by
        show ((s.blocks.modify 1 countB).modify 1 (clrB (k : Int).toNat)).modify 1 (setN (pg : Int)) = _
        rw [hB]
        rfl
      unfold blockB
      rw [(has_two hb3).2, if_pos rfl, hb3]
      rfl
    rw [e]
    refine ⟨hw, by rw [if_pos hlt]; rfl, ?_, fun j hj => ?_⟩
    · show (clr 0 k B1.pages).length = pg
      rw [clr_len, hp, List.length_replicate]
    · show (clr 0 k B1.pages)[j]? = _
      rw [clr_get, hp, List.length_replicate, List.getElem?_replicate, if_pos hj]
      by_cases h5 : j < k
      · rw [if_pos (by omega), if_pos h5]
      · rw [if_neg (by omega), if_neg h5]
  · rw [if_neg (show ¬ (k : Int) < pg by omega)]
    refine ⟨rfl, ?_⟩
    have e : blockB (powerS { ((ebump (cutS s 0 (k : Int)) 1).mod 1 (clrB (pg : Int).toNat)).mod 1 (setN 0) with down := true }) 1 = setN 0 (clrB pg (countB B1)) := by
      have hb3 : (powerS { ((ebump (cutS s 0 (k : Int)) 1).mod 1 (clrB (pg : Int).toNat)).mod 1 (setN 0) with down := true }).blocks = [B0, setN 0 (clrB pg (countB B1))] := by
        show ((s.blocks.modify 1 countB).modify 1 (clrB (pg : Int).toNat)).modify 1 (setN 0) = _
        rw [hB]
        rfl
      unfold blockB
      rw [(has_two hb3).2, if_pos rfl, hb3]
      rfl
    rw [e]
    refine ⟨hw, by rw [if_neg hlt]; rfl, ?_, fun j hj => ?_⟩
    · show (clr 0 pg B1.pages).length = pg
      rw [clr_len, hp, List.length_replicate]
    · show (clr 0 pg B1.pages)[j]? = _
      rw [clr_get, hp, List.length_replicate, List.getElem?_replicate, if_pos hj, if_pos (by omega), if_pos (by omega)]
theorem ty_len {pg k : Nat} {B : Blk} (h : TY pg k B) : ∀ xs ∈ B.pages, xs.length ≤ 100000 := fun xs hx => by
  obtain ⟨j, hj, rfl⟩ := List.getElem_of_mem hx
  have h1 := h.2.2.2 j (by rw [← h.2.2.1]; exact hj)
  rw [List.getElem?_eq_getElem hj] at h1
  injection h1 with h1
  rw [h1]
  split <;> simp
end Go.Proofs.Ytloldgiggnhemaa.Cm
