import Derived.Test.YtloldgiggnhemaaBf
set_option linter.unusedVariables false
set_option linter.unusedSimpArgs false
/-! BlockChip, plainly. -/
namespace Go.Proofs.Ytloldgiggnhemaa.Cm
open Go.RowKit Go.Proofs.YtloldgiggnhemaaW.PrintWords Go.Proofs.YtloldgiggnhemaaW.PrintLast Go.Proofs.YtloldgiggnhemaaW.PrintMore Go.Proofs.Ytloldgiggnhemaa.Kp Go.Proofs.Ytloldgiggnhemaa.Cp

def CB (u pg : Nat) (B : Blk) : Prop := B.bad = false ∧ B.next = (u : Int) ∧ u ≤ pg ∧ ∀ xs ∈ B.pages, xs.length ≤ 100000
structure CQ (s : Chp) (u : Nat → Nat) (pg : Nat) : Prop where
  len : s.blocks.length = 4
  pages : s.pages = pg
  down : s.down = false
  cut : s.cut = -1
  fail : s.fail = -1
  worn : s.worn = -1
  at_ : ∀ i, i < 4 → ∃ B, s.blocks[i]? = some B ∧ CB (u i) pg B
def upd (u : Nat → Nat) (b v : Nat) : Nat → Nat := fun i => if i = b then v else u i
theorem cq_new (pg : Nat) : CQ (newS 4 pg []) (fun _ => 0) pg := by
  refine ⟨rfl, rfl, rfl, rfl, rfl, rfl, fun i hi => ⟨⟨false, 0, 0, List.replicate pg []⟩, ?_, rfl, rfl, Nat.zero_le _, fun xs hx => by rw [List.eq_of_mem_replicate hx]; exact Nat.zero_le _⟩⟩
  match i, hi with
  | 0, _ => rfl
  | 1, _ => rfl
  | 2, _ => rfl
  | 3, _ => rfl
theorem cq_has {s : Chp} {u : Nat → Nat} {pg b : Nat} (h : CQ s u pg) (hb : b < 4) : hasB s (b : Int) = true := by
  unfold hasB
  rw [h.len, decide_eq_true (show (0 : Int) ≤ b by omega), decide_eq_true (show (b : Int) < (4 : Nat) by omega)]
  rfl
theorem mod_at {l : List Blk} {b j : Nat} {f : Blk → Blk} : (l.modify b f)[j]? = if b = j then (l[j]?).map f else l[j]? := by
  rw [List.getElem?_modify]
  by_cases e : b = j
  · simp [e]
  · simp [e]
theorem cq_prog {s : Chp} {u : Nat → Nat} {pg b : Nat} (h : CQ s u pg) (hb : b < 4) (hpg : pg ≤ 100) (hlt : u b < pg) : (progS s (b : Int) (u b : Int) [1]).2 = 0 ∧ CQ (progS s (b : Int) (u b : Int) [1]).1 (upd u b (u b + 1)) pg := by
  obtain ⟨B, hB, hbad, hnx, hle, hlen⟩ := h.at_ b hb
  have e : progS s (b : Int) (u b : Int) [1] = ((bump s b).mod b (pageB (u b) [1]), 0) := by
    rw [progS_L _ _ _ (by decide) (by decide)]
    unfold progL
    rw [spot_of (cq_has h hb) h.pages hlt, if_pos rfl, h.down, if_neg (by decide), show s.blocks[Int.toNat (b : Int)]? = some B from hB]
    show (if B.bad = true then (s, 3) else if (u b : Int) ≠ B.next then (s, 4) else _) = _
    rw [hbad, if_neg (by decide), hnx, if_neg (by simp), h.cut, if_neg (by decide), h.fail, if_neg (by decide)]
    rfl
  rw [e]
  refine ⟨rfl, ?_, h.pages, h.down, ?_, ?_, h.worn, fun i hi => ?_⟩
  · show ((s.blocks.modify b nextB).modify b (pageB (u b) [1])).length = 4
    rw [List.length_modify, List.length_modify, h.len]
  · show dec s.cut = -1
    rw [h.cut, dec_never]
  · show dec s.fail = -1
    rw [h.fail, dec_never]
  · show ∃ C, ((s.blocks.modify b nextB).modify b (pageB (u b) [1]))[i]? = some C ∧ CB (upd u b (u b + 1) i) pg C
    rw [mod_at, mod_at]
    by_cases e : b = i
    · subst e
      rw [if_pos rfl, if_pos rfl, hB]
      refine ⟨_, rfl, hbad, ?_, ?_, set_mem (by decide) hlen⟩
      · show wrap64 (B.next + 1) = ((upd u b (u b + 1) b : Nat) : Int)
        unfold upd
        rw [if_pos rfl, hnx, show (u b : Int) + 1 = ((u b + 1 : Nat) : Int) by omega]
        exact wrap_small _ (by omega) (by omega)
      · unfold upd
        rw [if_pos rfl]
        omega
    · rw [if_neg e, if_neg e]
      unfold upd
      rw [if_neg (fun h => e h.symm)]
      exact h.at_ i hi
theorem cq_full {s : Chp} {u : Nat → Nat} {pg b : Nat} (h : CQ s u pg) (hlt : ¬ u b < pg) : progS s (b : Int) (u b : Int) [1] = (s, 1) := by
  unfold progS
  rw [if_neg]
  rintro ⟨h1, -⟩
  unfold spotB at h1
  rw [h.pages] at h1
  simp only [Bool.and_eq_true, decide_eq_true_eq] at h1
  omega
theorem cq_erase {s : Chp} {u : Nat → Nat} {pg b : Nat} (h : CQ s u pg) (hb : b < 4) : (eraseS s (b : Int)).2 = 0 ∧ CQ (eraseS s (b : Int)).1 (upd u b 0) pg := by
  obtain ⟨B, hB, hbad, hnx, hle, hlen⟩ := h.at_ b hb
  have e : eraseS s (b : Int) = (((ebump s b).mod b (clrB s.pages.toNat)).mod b (setN 0), 0) := by
    unfold eraseS
    rw [cq_has h hb, if_pos rfl, h.down, if_neg (by decide), show s.blocks[Int.toNat (b : Int)]? = some B from hB]
    show (if B.bad = true then (s, 3) else erS s b) = _
    rw [hbad, if_neg (by decide)]
    unfold erS
    rw [h.cut, if_neg (by decide), h.worn, if_neg (by decide)]
  rw [e]
  refine ⟨rfl, ?_, h.pages, h.down, ?_, h.fail, ?_, fun i hi => ?_⟩
  · show (((s.blocks.modify b countB).modify b (clrB s.pages.toNat)).modify b (setN 0)).length = 4
    rw [List.length_modify, List.length_modify, List.length_modify, h.len]
  · show dec s.cut = -1
    rw [h.cut, dec_never]
  · show dec s.worn = -1
    rw [h.worn, dec_never]
  · show ∃ C, (((s.blocks.modify b countB).modify b (clrB s.pages.toNat)).modify b (setN 0))[i]? = some C ∧ CB (upd u b 0 i) pg C
    rw [mod_at, mod_at, mod_at]
    by_cases e : b = i
    · subst e
      rw [if_pos rfl, if_pos rfl, if_pos rfl, hB]
      refine ⟨_, rfl, hbad, ?_, ?_, clr_mem _ _ _ hlen⟩
      · unfold upd
        rw [if_pos rfl]
        rfl
      · unfold upd
        rw [if_pos rfl]
        exact Nat.zero_le _
    · rw [if_neg e, if_neg e, if_neg e]
      unfold upd
      rw [if_neg (fun h => e h.symm)]
      exact h.at_ i hi
theorem cq_lens {s : Chp} {u : Nat → Nat} {pg : Nat} (h : CQ s u pg) : ∀ B ∈ s.blocks, ∀ xs ∈ B.pages, xs.length ≤ 100000 := fun B hB => by
  obtain ⟨i, hi, rfl⟩ := List.getElem_of_mem hB
  obtain ⟨C, hC, -, -, -, h4⟩ := h.at_ i (by rw [← h.len]; exact hi)
  rw [List.getElem?_eq_getElem hi] at hC
  rw [Option.some.inj hC]
  exact h4
/-- The row that Blocks makes of such a chip. -/
def CR (u : Nat → Nat) (pg : Nat) (l : List FB) : Prop := l.length = 4 ∧ ∀ i, i < 4 → (l.getD i zF).bad = false ∧ (l.getD i zF).next = (u i : Int) ∧ u i ≤ pg
theorem cq_row {s : Chp} {u : Nat → Nat} {pg b0 : Nat} {W : World} {l : List FB} (h : CQ s u pg) (hf : FBs W b0 s.blocks l) : CR u pg l := by
  refine ⟨by rw [hf.1, h.len], fun i hi => ?_⟩
  obtain ⟨B, hB, h1, h2, h3, -⟩ := h.at_ i hi
  obtain ⟨p, hp, -⟩ := hf.2 i B hB
  rw [List.getD_eq_getElem?_getD, hp]
  exact ⟨h1, h2, h3⟩
theorem cr_bad {u : Nat → Nat} {pg : Nat} {l : List FB} (h : CR u pg l) : badUpto l l.length = 0 := by
  rw [h.1]
  simp only [badUpto, (h.2 0 (by decide)).1, (h.2 1 (by decide)).1, (h.2 2 (by decide)).1, (h.2 3 (by decide)).1]
  rfl
def zc (u : Nat → Nat) : Nat → Nat
  | 0 => 0
  | k + 1 => if u k = 0 then zc u k + 1 else zc u k
theorem zc_le (u : Nat → Nat) : ∀ k, zc u k ≤ k
  | 0 => Nat.le_refl _
  | k + 1 => by
    have := zc_le u k
    unfold zc
    split <;> omega
theorem cr_clean {u : Nat → Nat} {pg : Nat} {l : List FB} (h : CR u pg l) : ∀ k, k ≤ 4 → (cleansUpto l k).length = zc u k
  | 0, _ => rfl
  | k + 1, hk => by
    have ih := cr_clean h k (by omega)
    obtain ⟨h1, h2, -⟩ := h.2 k (by omega)
    unfold cleansUpto zc okF
    rw [h1, h2]
    by_cases e : u k = 0
    · rw [if_pos (by simp [e]), if_pos e, List.length_append, ih]
      rfl
    · rw [if_neg (by simp; omega), if_neg e, ih]
end Go.Proofs.Ytloldgiggnhemaa.Cm
