import Derived.Test.YtloldgiggnhemaaDk
set_option linter.unusedVariables false
set_option linter.unusedSimpArgs false
/-! ChipStands, plainly. -/
namespace Go.Proofs.Ytloldgiggnhemaa.Cm
open Go.RowKit Go.Proofs.YtloldgiggnhemaaW.PrintWords Go.Proofs.YtloldgiggnhemaaW.PrintLast Go.Proofs.YtloldgiggnhemaaW.PrintMore Go.Proofs.Ytloldgiggnhemaa.Kp Go.Proofs.Ytloldgiggnhemaa.Cp

/-- What holds of block 1 of a chip of four blocks of four pages. -/
structure At1 (P : Blk → Prop) (s : Chp) : Prop where
  len : s.blocks.length = 4
  pages : s.pages = 4
  blk : ∃ B, s.blocks[1]? = some B ∧ P B
theorem At1.mod {P : Blk → Prop} {s : Chp} (h : At1 P s) (i : Nat) (f : Blk → Blk) (hf : i = 1 → ∀ B, s.blocks[1]? = some B → P B → P (f B)) : At1 P (s.mod i f) := by
  obtain ⟨B, hB, hP⟩ := h.blk
  refine ⟨by show (s.blocks.modify i f).length = 4; rw [List.length_modify]; exact h.len, h.pages, ?_⟩
  show ∃ B, (s.blocks.modify i f)[1]? = some B ∧ P B
  rw [List.getElem?_modify, hB]
  by_cases e : i = 1
  · exact ⟨f B, by simp [e], hf e B hB hP⟩
  · exact ⟨B, by simp [e], hP⟩
theorem At1.of {P : Blk → Prop} {s t : Chp} (h : At1 P s) (h1 : t.blocks = s.blocks) (h2 : t.pages = s.pages) : At1 P t := ⟨by rw [h1]; exact h.len, by rw [h2]; exact h.pages, by rw [h1]; exact h.blk⟩
/-- Page k of block 1 holds b, for ever. -/
structure KB (k : Nat) (b : List Int) (B : Blk) : Prop where
  cnt : B.count = 0
  nx : (k : Int) < B.next
  pl : B.pages.length = 4
  pg : B.pages[k]? = some b
  lens : ∀ xs ∈ B.pages, xs.length ≤ 100000
theorem KB.bad {k : Nat} {b : List Int} {B : Blk} (h : KB k b B) : KB k b (badB B) := ⟨h.cnt, h.nx, h.pl, h.pg, h.lens⟩
theorem KB.page {k j : Nat} {b xs : List Int} {B : Blk} (h : KB k b B) (hj : B.next = j) (hx : xs.length ≤ 100000) (h4 : j < 4) : KB k b (pageB j xs (nextB B)) := by
  have h1 := h.nx
  have hw : wrap64 (B.next + 1) = B.next + 1 := wrap_small _ (by omega) (by omega)
  refine ⟨h.cnt, ?_, by show (B.pages.set j xs).length = 4; rw [List.length_set]; exact h.pl, ?_, set_mem hx h.lens⟩
  · show (k : Int) < wrap64 (B.next + 1)
    omega
  · show (B.pages.set j xs)[k]? = some b
    rw [List.getElem?_set_ne (by omega)]
    exact h.pg
theorem spot4 {s : Chp} {b p : Int} (hp : s.pages = 4) (h : spotB s b p = true) : ∃ j : Nat, p = j ∧ j < 4 := by
  unfold spotB at h
  simp only [Bool.and_eq_true, decide_eq_true_eq] at h
  exact ⟨p.toNat, by omega, by omega⟩
theorem bump_at {P : Blk → Prop} {s : Chp} {i : Nat} {g : Blk → Blk} (h : At1 P s) (hf : i = 1 → ∀ B, s.blocks[1]? = some B → P B → P (g (nextB B))) : At1 P ((bump s i).mod i g) := by
  have h1 : At1 P (s.mod i (fun B => g (nextB B))) := h.mod i _ hf
  refine h1.of ?_ rfl
  show (s.blocks.modify i nextB).modify i g = s.blocks.modify i (fun B => g (nextB B))
  apply List.ext_getElem?
  intro j
  simp only [List.getElem?_modify]
  cases s.blocks[j]? with
  | none => rfl
  | some B => by_cases e : i = j <;> simp [e]
theorem kb_prog {k : Nat} {b : List Int} {s : Chp} (h : At1 (KB k b) s) (x p : Int) (xs : List Int) (hx : xs.length ≤ 100000) : At1 (KB k b) (progS s x p xs).1 := by
  unfold progS
  split
  · rename_i hs
    obtain ⟨j, rfl, hj⟩ := spot4 h.pages hs.1
    split
    · exact h
    · split
      · exact h
      · rename_i B hB
        split
        · exact h
        · split
          · exact h
          · rename_i hne
            have hnx : B.next = (j : Int) := by
              by_cases e : (j : Int) = B.next
              · exact e.symm
              · exact absurd e hne
            have hkey : ∀ ys : List Int, ys.length ≤ 100000 → At1 (KB k b) ((bump s x.toNat).mod x.toNat (pageB (Int.toNat (j : Int)) ys)) := fun ys hy => bump_at h (fun e C hC hP => by
              rw [e, hC] at hB
              injection hB with hB
              subst hB
              exact hP.page hnx hy hj)
            split
            · exact (hkey _ (by rw [List.length_take]; omega)).of rfl rfl
            · split
              · exact (hkey _ (by rw [List.length_take]; omega)).mod _ _ (fun _ _ _ hP => hP.bad)
              · exact hkey _ hx
  · exact h
theorem kb_erase {k : Nat} {b : List Int} {s : Chp} (h : At1 (KB k b) s) (x : Int) (hx : x ≠ 1) : At1 (KB k b) (eraseS s x).1 := by
  unfold eraseS
  split
  · rename_i hh
    have hx1 : x.toNat ≠ 1 := by
      unfold hasB at hh
      simp only [Bool.and_eq_true, decide_eq_true_eq] at hh
      omega
    split
    · exact h
    · split
      · exact h
      · split
        · exact h
        · have h0 : At1 (KB k b) (ebump s x.toNat) := (h.mod x.toNat countB (fun e => absurd e hx1)).of rfl rfl
          have h2 : ∀ (f g : Blk → Blk), At1 (KB k b) (((ebump s x.toNat).mod x.toNat f).mod x.toNat g) := fun f g => (h0.mod _ f (fun e => absurd e hx1)).mod _ g (fun e => absurd e hx1)
          unfold erS
          split
          · split
            · exact (h2 _ _).of rfl rfl
            · exact (h2 _ _).of rfl rfl
          · split
            · exact h0.mod _ _ (fun e => absurd e hx1)
            · exact h2 _ _
  · exact h
theorem kb_fail {k : Nat} {b : List Int} {s : Chp} (h : At1 (KB k b) s) (n : Int) : At1 (KB k b) (failS s n) := h.of rfl rfl
theorem kb_cut {k : Nat} {b : List Int} {s : Chp} (h : At1 (KB k b) s) (n m : Int) : At1 (KB k b) (cutS s n m) := h.of rfl rfl
theorem kb_power {k : Nat} {b : List Int} {s : Chp} (h : At1 (KB k b) s) : At1 (KB k b) (powerS s) := h.of rfl rfl
theorem has4 {P : Blk → Prop} {s : Chp} (h : At1 P s) : hasB s 1 = true := by
  unfold hasB
  rw [h.len]
  rfl
theorem kb_block {P : Blk → Prop} {s : Chp} (h : At1 P s) : P (blockB s 1) := by
  obtain ⟨B, hB, hP⟩ := h.blk
  have e : blockB s 1 = B := by
    unfold blockB
    rw [has4 h, if_pos rfl]
    show (s.blocks[1]?).getD noB = B
    rw [hB]
    rfl
  rw [e]
  exact hP
theorem kb_read {k : Nat} {b : List Int} {s : Chp} (h : At1 (KB k b) s) (hk : k < 4) : readE (powerS s) 1 (k : Int) = 0 ∧ readX (powerS s) 1 (k : Int) = b := by
  have hs : spotB (powerS s) 1 (k : Int) = true := by
    unfold spotB
    have h1 : hasB (powerS s) 1 = true := has4 (kb_power h)
    have h2 : (powerS s).pages = 4 := h.pages
    rw [h1, h2, decide_eq_true (show (0 : Int) ≤ k by omega), decide_eq_true (show (k : Int) < 4 by omega)]
    rfl
  obtain ⟨B, hB, hP⟩ := h.blk
  unfold readE readX
  have hd : (powerS s).down = false := rfl
  rw [hs, hd, if_pos rfl, if_neg (by decide), if_pos ⟨rfl, rfl⟩]
  refine ⟨rfl, ?_⟩
  show ((s.blocks[1]?.map (·.pages)).getD [])[k]?.getD [] = b
  rw [hB]
  show B.pages[k]?.getD [] = b
  rw [hP.pg]
  rfl
/-- Ahead of it: i pages of block 1 are programmed. -/
structure NB (i : Nat) (B : Blk) : Prop where
  bad : B.bad = false
  cnt : B.count = 0
  nx : B.next = i
  pl : B.pages.length = 4
  lens : ∀ xs ∈ B.pages, xs.length ≤ 100000
structure Up (i : Nat) (s : Chp) : Prop where
  at1 : At1 (NB i) s
  down : s.down = false
  cut : s.cut = -1
  fail : s.fail = -1
theorem up_new : Up 0 (newS 4 4 []) := ⟨⟨rfl, rfl, ⟨⟨false, 0, 0, List.replicate 4 []⟩, rfl, ⟨rfl, rfl, rfl, rfl, fun xs hx => by rw [List.eq_of_mem_replicate hx]; exact Nat.zero_le _⟩⟩⟩, rfl, rfl, rfl⟩
theorem up_prog {i : Nat} {s : Chp} (h : Up i s) (hi : i < 4) {xs : List Int} (h1 : 1 ≤ xs.length) (h2 : xs.length ≤ 2000) : (progS s 1 (i : Int) xs).2 = 0 ∧ Up (i + 1) (progS s 1 (i : Int) xs).1 ∧ At1 (KB i xs) (progS s 1 (i : Int) xs).1 := by
  obtain ⟨B, hB, hP⟩ := h.at1.blk
  have hs : spotB s 1 (i : Int) = true := by
    unfold spotB
    rw [has4 h.at1, h.at1.pages, decide_eq_true (show (0 : Int) ≤ i by omega), decide_eq_true (show (i : Int) < 4 by omega)]
    rfl
  have e : progS s 1 (i : Int) xs = ((bump s 1).mod 1 (pageB i xs), 0) := by
    rw [progS_L _ _ _ h1 h2]
    unfold progL
    rw [hs, if_pos rfl, h.down, if_neg (by decide), show s.blocks[Int.toNat 1]? = some B from hB]
    show (if B.bad = true then (s, 3) else if (i : Int) ≠ B.next then (s, 4) else _) = _
    rw [hP.bad, if_neg (by decide), hP.nx, if_neg (by simp), h.cut, if_neg (by decide), h.fail, if_neg (by decide)]
    rfl
  have hw : wrap64 (B.next + 1) = ((i + 1 : Nat) : Int) := by rw [hP.nx, show (i : Int) + 1 = ((i + 1 : Nat) : Int) by omega]; exact wrap_small _ (by omega) (by omega)
  have hb : ((bump s 1).mod 1 (pageB i xs)).blocks[1]? = some (pageB i xs (nextB B)) := by
    show ((s.blocks.modify 1 nextB).modify 1 (pageB i xs))[1]? = _
    rw [List.getElem?_modify, List.getElem?_modify, hB]
    rfl
  have hl : ((bump s 1).mod 1 (pageB i xs)).blocks.length = 4 := by
    show ((s.blocks.modify 1 nextB).modify 1 (pageB i xs)).length = 4
    rw [List.length_modify, List.length_modify]
    exact h.at1.len
  have hpl : (B.pages.set i xs).length = 4 := by rw [List.length_set]; exact hP.pl
  rw [e]
  refine ⟨rfl, ⟨⟨hl, h.at1.pages, _, hb, ⟨hP.bad, hP.cnt, hw, hpl, set_mem (by omega) hP.lens⟩⟩, h.down, ?_, ?_⟩, ⟨hl, h.at1.pages, _, hb, ⟨hP.cnt, ?_, hpl, ?_, set_mem (by omega) hP.lens⟩⟩⟩
  · show dec s.cut = -1
    rw [h.cut, dec_never]
  · show dec s.fail = -1
    rw [h.fail, dec_never]
  · show (i : Int) < wrap64 (B.next + 1)
    rw [hw]
    omega
  · show (B.pages.set i xs)[i]? = some xs
    rw [List.getElem?_set_self (by rw [hP.pl]; exact hi)]
end Go.Proofs.Ytloldgiggnhemaa.Cm
