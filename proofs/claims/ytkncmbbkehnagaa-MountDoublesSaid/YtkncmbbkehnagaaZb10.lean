import Derived.Test.YtkncmbbkehnagaaZb9
import Derived.Test.YtkncmbbkehnagaaZb7
import Derived.Lib.SlBytesConst
import Derived.Test.YtkncmbbkehnagaaZb6
set_option linter.unusedVariables false
set_option linter.unusedSimpArgs false
/-! Plainly: a chip on which pages were laid, and a scan of it. -/
namespace Go.Proofs.Ytkncmbbkehnagaa.Cm
open Go.RowKit Go.Proofs.YtkncmbbkehnagaaW.PrintWords Go.Proofs.YtkncmbbkehnagaaW.PrintLast Go.Proofs.YtkncmbbkehnagaaW.PrintMore Go.Proofs.Ytkncmbbkehnagaa.Kp Go.Proofs.Ytkncmbbkehnagaa.Cp Go.Proofs.Ytkncmbbkehnagaa.PAll Go.Proofs.Ytkncmbbkehnagaa.Iter Go.Proofs.Ytkncmbbkehnagaa.St Go.Proofs.Ytkncmbbkehnagaa.Sp Go.Proofs.Ytkncmbbkehnagaa.Pl2

def shB (p : Nat) (B : List (List Int)) : Blk := ⟨false, B.length, 0, B ++ List.replicate (p - B.length) []⟩
def mkC (p : Nat) (L : List (List (List Int))) (br bp kp : Int) : Chp := ⟨L.map (shB p), p, br, bp, 0, -1, -1, -1, kp, false⟩
theorem new_mkC (n p : Nat) : newS n p [] = mkC p (List.replicate n []) 0 0 0 := by
  unfold newS mkC
  congr 1
  refine List.ext_getElem? (fun i => ?_)
  by_cases h : i < n
  · simp [h, shB, List.getElem?_replicate]
  · simp [h, List.getElem?_replicate]
theorem mkC_get (p : Nat) (L : List (List (List Int))) (br bp kp : Int) (i : Nat) : (mkC p L br bp kp).blocks[i]? = L[i]?.map (shB p) := by simp [mkC]
theorem mkC_spot {p : Nat} {L : List (List (List Int))} {br bp kp : Int} {i j : Nat} (hi : i < L.length) (hj : j < p) : spotB (mkC p L br bp kp) i j = true := by
  simp [spotB, hasB, mkC]; omega
theorem shB_put (p : Nat) (B : List (List Int)) (x : List Int) (h : B.length < p) (hp : p ≤ 32) : pageB B.length x (nextB (shB p B)) = shB p (B ++ [x]) := by
  obtain ⟨d, hd⟩ : ∃ d, p - B.length = d + 1 := ⟨p - B.length - 1, by omega⟩
  have e : p - (B ++ [x]).length = d := by rw [List.length_append, List.length_singleton]; omega
  unfold pageB nextB shB
  rw [hd, e]
  simp only [List.replicate_succ, List.set_append_right _ _ (Nat.le_refl _), Nat.sub_self, List.set_cons_zero, List.length_append, List.length_singleton, List.append_assoc, List.singleton_append]
  congr 1
  unfold wrap64
  omega
theorem set_get {L : List (List (List Int))} {i : Nat} (B : List (List Int)) (k : Nat) (hi : i < L.length) : (L.set i B)[k]? = if i = k then some B else L[k]? := by
  by_cases e : i = k
  · subst e
    simp [hi]
  · simp [e, List.getElem?_set]
theorem dec1 : dec (-1) = -1 := by unfold dec mx wrap64; omega
theorem getD_at {α : Type} {l : List α} {i : Nat} (z : α) (h : i < l.length) : l.getD i z = l[i] := by
  rw [List.getD_eq_getElem?_getD, List.getElem?_eq_getElem h]
  rfl
theorem mod_mk {p : Nat} {L : List (List (List Int))} {i : Nat} {B : List (List Int)} (x : List Int) (hB : L[i]? = some B) (h : B.length < p) (hp : p ≤ 32) : ((L.map (shB p)).modify i nextB).modify i (pageB B.length x) = (L.set i (B ++ [x])).map (shB p) := by
  have hi := (List.getElem?_eq_some_iff.1 hB).1
  refine List.ext_getElem? (fun k => ?_)
  rw [List.getElem?_map, set_get _ _ hi]
  simp only [List.getElem?_modify, List.getElem?_map]
  by_cases e : i = k
  · subst e
    simp only [hB, if_true, Option.map_some, Option.map_eq_map, Option.some.injEq]
    exact shB_put p B x h hp
  · simp only [if_neg e, Option.map_eq_map, Option.map_map]
    cases L[k]? <;> rfl
/-- A page is programmed. -/
theorem prog_mk {p : Nat} {L : List (List (List Int))} (br bp kp : Int) {i : Nat} {B : List (List Int)} (x : List Int) (hB : L[i]? = some B) (h : B.length < p) (hp : p ≤ 32) (h1 : 1 ≤ x.length) (h2 : x.length ≤ 2000) :
    progS (mkC p L br bp kp) i B.length x = (mkC p (L.set i (B ++ [x])) br (wrap64 (bp + 1)) kp, 0) := by
  have hi := (List.getElem?_eq_some_iff.1 hB).1
  unfold progS
  rw [if_pos ⟨mkC_spot hi h, h1, h2⟩, if_neg (by simp [mkC])]
  have e : (mkC p L br bp kp).blocks[((i : Nat) : Int).toNat]? = some (shB p B) := by rw [Int.toNat_natCast, mkC_get, hB]; rfl
  rw [e]
  simp only
  rw [if_neg (by simp [shB]), if_neg (by simp [shB]), if_neg (by simp [mkC]), if_neg (by simp [mkC])]
  simp only [Int.toNat_natCast, bump, Chp.mod, mkC]
  rw [mod_mk x hB h hp, dec1]
/-! ### what is found -/
def shOf (x : List Int) : List S28 := if (parseL x).2.2.2 = 0 then [⟨(parseL x).1, (parseL x).2.1, (parseL x).2.2.1⟩] else []
theorem parse_nil : parseL [] = (0, 0, [], 5) := by
  rcases parse_inv (b := []) (fun _ h => by cases h) with h | ⟨p, q, d, _, _, h⟩
  · exact h
  · exfalso
    have := congrArg List.length h
    unfold laidL at this
    simp at this
theorem shOf_nil : shOf [] = [] := by
  unfold shOf
  rw [parse_nil]
  rfl
theorem shOf_laid {x : S28} (h : mayB x.f0 x.f1 x.f2 = true) : shOf (laidL x.f0 x.f1 x.f2) = [x] := by
  unfold shOf
  rw [parse_laid h]
  rfl
def pgAt (L : List (List (List Int))) (i j : Nat) : List Int := ((L.getD i []).getD j [])
theorem mkC_blockB {p : Nat} {L : List (List (List Int))} {br bp kp : Int} {i : Nat} (hi : i < L.length) : blockB (mkC p L br bp kp) i = shB p (L.getD i []) := by
  unfold blockB
  rw [if_pos (by simp [hasB, mkC]; exact hi), Int.toNat_natCast, mkC_get, List.getElem?_eq_getElem hi, List.getD_eq_getElem?_getD, List.getElem?_eq_getElem hi]
  rfl
theorem mkC_readX {p : Nat} {L : List (List (List Int))} {br bp kp : Int} {i j : Nat} (hi : i < L.length) (hj : j < p) : readX (mkC p L br bp kp) i j = pgAt L i j := by
  unfold readX
  rw [if_pos ⟨mkC_spot hi hj, rfl⟩]
  unfold pageOf pgAt
  rw [Int.toNat_natCast, Int.toNat_natCast, mkC_get, List.getElem?_eq_getElem hi, getD_at [] hi]
  simp only [Option.map_some, Option.getD_some, shB]
  rw [List.getD_eq_getElem?_getD]
  by_cases h : j < (L[i]).length
  · rw [List.getElem?_append_left h]
  · rw [List.getElem?_append_right (by omega), List.getElem?_replicate, List.getElem?_eq_none (by omega)]
    split <;> rfl
theorem mkC_rdNew {p : Nat} {L : List (List (List Int))} {br bp kp : Int} {i j : Nat} (hi : i < L.length) (hj : j < p) : rdNew (mkC p L br bp kp) i j = shOf (pgAt L i j) := by
  unfold rdNew
  rw [mkC_blockB hi, mkC_readX hi hj]
  split
  · rename_i h
    have h0 : (L.getD i []) = [] := List.eq_nil_of_length_eq_zero (by simp only [shB] at h; omega)
    unfold pgAt
    rw [h0]
    exact shOf_nil.symm
  · rfl
/-- Block by block, page by page. -/
theorem grid {α : Type} (p : Nat) (hp : 0 < p) (f : Nat → Nat → List α) : ∀ n, (List.range (n * p)).flatMap (fun k => f (k / p) (k % p)) = (List.range n).flatMap (fun i => (List.range p).flatMap (f i)) := by
  intro n
  induction n with
  | zero => simp
  | succ n ih =>
    rw [Nat.succ_mul, List.range_add, List.flatMap_append, ih, List.range_succ, List.flatMap_append]
    congr 1
    simp only [List.flatMap_map, List.flatMap_cons, List.flatMap_nil, List.append_nil]
    have : ∀ m, m ≤ p → (List.range m).flatMap (fun a => f ((n * p + a) / p) ((n * p + a) % p)) = (List.range m).flatMap (f n) := by
      intro m
      induction m with
      | zero => intro _; rfl
      | succ m ih2 =>
        intro hm
        rw [List.range_succ, List.flatMap_append, List.flatMap_append, ih2 (by omega)]
        simp only [List.flatMap_cons, List.flatMap_nil, List.append_nil]
        have e1 : (n * p + m) / p = n := by rw [Nat.mul_comm, Nat.mul_add_div hp, Nat.div_eq_of_lt (by omega)]; omega
        have e2 : (n * p + m) % p = m := by rw [Nat.mul_comm, Nat.mul_add_mod, Nat.mod_eq_of_lt (by omega)]
        rw [e1, e2]
    exact this p (Nat.le_refl _)
theorem spots2_eq {n p : Nat} (h1 : 1 ≤ n) (h2 : n ≤ 64) (h3 : 1 ≤ p) (h4 : p ≤ 32) : spots2 n p = (List.range (n * p)).map (fun k => (((k / p : Nat) : Int), ((k % p : Nat) : Int))) := by
  unfold spots2 spotsList
  rw [if_neg (by omega), show ((n : Int) * (p : Int)).toNat = n * p by rw [← Int.natCast_mul, Int.toNat_natCast]]
  unfold spotsTo
  rw [List.map_map]
  refine List.map_congr_left (fun k _ => ?_)
  simp
theorem spots2_mem {n p : Nat} (h1 : 1 ≤ n) (h2 : n ≤ 64) (h3 : 1 ≤ p) (h4 : p ≤ 32) {x : Sp2} (hx : x ∈ spots2 n p) : ∃ i j : Nat, i < n ∧ j < p ∧ x = ((i : Int), (j : Int)) := by
  rw [spots2_eq h1 h2 h3 h4] at hx
  obtain ⟨k, hk, rfl⟩ := List.mem_map.1 hx
  have hk := List.mem_range.1 hk
  exact ⟨k / p, k % p, (Nat.div_lt_iff_lt_mul (by omega)).2 hk, Nat.mod_lt _ (by omega), rfl⟩
theorem flat_cong {α β : Type} (l : List α) (f g : α → List β) (h : ∀ x ∈ l, f x = g x) : l.flatMap f = l.flatMap g := by
  induction l with
  | nil => rfl
  | cons a l ih => simp only [List.flatMap_cons]; rw [h a (by simp), ih (fun x hx => h x (by simp [hx]))]
theorem scan_grid {α : Type} {n p : Nat} (h1 : 1 ≤ n) (h2 : n ≤ 64) (h3 : 1 ≤ p) (h4 : p ≤ 32) (f : Sp2 → List α) : (spots2 n p).flatMap f = (List.range n).flatMap (fun i : Nat => (List.range p).flatMap (fun j : Nat => f ((i : Int), (j : Int)))) := by
  rw [spots2_eq h1 h2 h3 h4, List.flatMap_map]
  exact grid p (by omega) (fun i j : Nat => f ((i : Int), (j : Int))) n
/-- The pages of a block. -/
def blkN (p : Nat) (B : List (List Int)) : List S28 := (List.range p).flatMap (fun j => shOf (B.getD j []))
def blkF (p : Nat) (i : Nat) (B : List (List Int)) : List FD := (List.range p).flatMap (fun j : Nat => (shOf (B.getD j [])).map (asF (i : Int) (j : Int)))
theorem scanN_mk {p : Nat} {L : List (List (List Int))} {br bp kp : Int} (h1 : 1 ≤ L.length) (h2 : L.length ≤ 64) (h3 : 1 ≤ p) (h4 : p ≤ 32) : scanN (mkC p L br bp kp) (spots2 L.length p) = L.flatMap (blkN p) := by
  unfold scanN
  rw [scan_grid h1 h2 h3 h4]
  have e : (List.range L.length).flatMap (fun i : Nat => (List.range p).flatMap fun j : Nat => rdNew (mkC p L br bp kp) (i : Int) (j : Int)) = (List.range L.length).flatMap (fun i => blkN p (L.getD i [])) := by
    refine flat_cong _ _ _ (fun i hi => flat_cong _ _ _ (fun j hj => ?_))
    rw [mkC_rdNew (List.mem_range.1 hi) (List.mem_range.1 hj)]
    rfl
  refine e.trans ?_
  have : ∀ m, m ≤ L.length → (List.range m).flatMap (fun i => blkN p (L.getD i [])) = (L.take m).flatMap (blkN p) := by
    intro m
    induction m with
    | zero => intro _; rfl
    | succ m ih =>
      intro hm
      rw [List.range_succ, List.flatMap_append, ih (by omega), take_snoc2 L m L[m] (List.getElem?_eq_getElem (by omega)), List.flatMap_append]
      simp only [List.flatMap_cons, List.flatMap_nil, List.append_nil]
      rw [List.getD_eq_getElem?_getD, List.getElem?_eq_getElem (by omega)]
      rfl
  rw [this _ (Nat.le_refl _), List.take_length]
theorem scanF_mk {p : Nat} {L : List (List (List Int))} {br bp kp : Int} (h1 : 1 ≤ L.length) (h2 : L.length ≤ 64) (h3 : 1 ≤ p) (h4 : p ≤ 32) : scanF (mkC p L br bp kp) (spots2 L.length p) = (List.range L.length).flatMap (fun i => blkF p i (L.getD i [])) := by
  unfold scanF
  rw [scan_grid h1 h2 h3 h4]
  refine flat_cong _ _ _ (fun i hi => flat_cong _ _ _ (fun j hj => ?_))
  simp only
  rw [mkC_rdNew (List.mem_range.1 hi) (List.mem_range.1 hj)]
  rfl
theorem blkF_nil (p i : Nat) : blkF p i [] = [] := by
  unfold blkF
  have : ∀ l : List Nat, l.flatMap (fun j : Nat => (shOf (([] : List (List Int)).getD j [])).map (asF (i : Int) (j : Int))) = [] := by
    intro l
    induction l with
    | nil => rfl
    | cons a l ih => rw [List.flatMap_cons, ih]; simp [shOf_nil]
  exact this _
theorem blkN_nil (p : Nat) : blkN p [] = [] := by
  unfold blkN
  have : ∀ l : List Nat, l.flatMap (fun j => shOf (([] : List (List Int)).getD j [])) = [] := by
    intro l
    induction l with
    | nil => rfl
    | cons a l ih => rw [List.flatMap_cons, ih]; simp [shOf_nil]
  exact this _
/-- Sheets, laid in a row. -/
def lay (l : List S28) : List (List Int) := l.map (fun x => laidL x.f0 x.f1 x.f2)
def fds (i : Nat) (l : List S28) : List FD := (List.range l.length).map (fun j : Nat => asF (i : Int) (j : Int) (l.getD j z28))
theorem range_split {α : Type} (m p : Nat) (h : m ≤ p) (f : Nat → List α) (hf : ∀ j, m ≤ j → f j = []) : (List.range p).flatMap f = (List.range m).flatMap f := by
  obtain ⟨d, rfl⟩ := Nat.exists_eq_add_of_le h
  induction d with
  | zero => rfl
  | succ d ih => rw [show m + (d + 1) = m + d + 1 from rfl, List.range_succ, List.flatMap_append, ih (by omega)]; simp [hf]
theorem lay_get (l : List S28) (j : Nat) (h : j < l.length) : (lay l).getD j [] = laidL (l.getD j z28).f0 (l.getD j z28).f1 (l.getD j z28).f2 := by
  simp [lay, List.getD_eq_getElem?_getD, List.getElem?_eq_getElem h]
theorem lay_none (l : List S28) (j : Nat) (h : l.length ≤ j) : (lay l).getD j [] = [] := by
  simp [lay, List.getD_eq_getElem?_getD, List.getElem?_eq_none h]
theorem getD_mem28 {l : List S28} {j : Nat} (h : j < l.length) : l.getD j z28 ∈ l := by
  rw [List.getD_eq_getElem?_getD, List.getElem?_eq_getElem h]
  exact List.getElem_mem h
theorem blkF_lay {p i : Nat} {l : List S28} (hl : l.length ≤ p) (hm : ∀ x ∈ l, mayB x.f0 x.f1 x.f2 = true) : blkF p i (lay l) = fds i l := by
  unfold blkF
  rw [range_split l.length p hl _ (fun j hj => by rw [lay_none l j hj, shOf_nil]; rfl)]
  unfold fds
  rw [List.map_eq_flatMap]
  refine flat_cong _ _ _ (fun j hj => ?_)
  have hj := List.mem_range.1 hj
  rw [lay_get l j hj, shOf_laid (hm _ (getD_mem28 hj))]
  rfl
theorem range_getD {α : Type} (z : α) (l : List α) : (List.range l.length).map (fun j => l.getD j z) = l := by
  refine List.ext_getElem (by simp) (fun i h1 h2 => ?_)
  simp only [List.getElem_map, List.getElem_range, List.getD_eq_getElem?_getD]
  rw [List.getElem?_eq_getElem h2]
  rfl
theorem blkN_lay {p : Nat} {l : List S28} (hl : l.length ≤ p) (hm : ∀ x ∈ l, mayB x.f0 x.f1 x.f2 = true) : blkN p (lay l) = l := by
  unfold blkN
  rw [range_split l.length p hl _ (fun j hj => by rw [lay_none l j hj, shOf_nil])]
  rw [flat_cong _ _ (fun j => [l.getD j z28]) (fun j hj => by
    have hj := List.mem_range.1 hj
    rw [lay_get l j hj, shOf_laid (hm _ (getD_mem28 hj))])]
  rw [← List.map_eq_flatMap, range_getD]
/-- Ready to be scanned. -/
def OkL (p : Nat) (L : List (List (List Int))) : Prop := ∀ B ∈ L, B.length ≤ p ∧ ∀ x ∈ B, Bytes x ∧ x.length ≤ 2000
theorem pgAt_ok {p : Nat} {L : List (List (List Int))} (h : OkL p L) (i j : Nat) : Bytes (pgAt L i j) ∧ (pgAt L i j).length ≤ 2000 := by
  unfold pgAt
  have hn : Bytes ([] : List Int) ∧ ([] : List Int).length ≤ 2000 := ⟨fun _ h => (by cases h), by decide⟩
  by_cases hi : i < L.length
  · rw [getD_at [] hi]
    by_cases hj : j < (L[i]).length
    · rw [getD_at [] hj]
      exact (h _ (List.getElem_mem hi)).2 _ (List.getElem_mem hj)
    · rw [List.getD_eq_getElem?_getD, List.getElem?_eq_none (by omega)]
      exact hn
  · have e : L.getD i [] = [] := by rw [List.getD_eq_getElem?_getD, List.getElem?_eq_none (by omega)]; rfl
    rw [e]
    exact hn
theorem rdy_mk {p : Nat} {L : List (List (List Int))} {br bp kp : Int} (h : OkL p L) (h1 : 1 ≤ L.length) (h2 : L.length ≤ 64) (h3 : 1 ≤ p) (h4 : p ≤ 32) {sp : List Sp2} (hs : ∀ x ∈ sp, x ∈ spots2 L.length p) : Rdy (mkC p L br bp kp) sp where
  down := rfl
  spot := fun x hx => by
    obtain ⟨i, j, hi, hj, rfl⟩ := spots2_mem h1 h2 h3 h4 (hs x hx)
    exact mkC_spot hi hj
  pages := fun x hx => by
    obtain ⟨i, j, hi, hj, rfl⟩ := spots2_mem h1 h2 h3 h4 (hs x hx)
    obtain ⟨a1, a2⟩ := pgAt_ok h i j
    rw [mkC_readX hi hj, mkC_blockB hi]
    refine ⟨fun xs hxs => ?_, ⟨a1, by omega⟩, by omega⟩
    have hx2 : xs ∈ L.getD i [] ++ List.replicate (p - (L.getD i []).length) [] := hxs
    rcases List.mem_append.1 hx2 with hx2 | hx2
    · rw [List.getD_eq_getElem?_getD, List.getElem?_eq_getElem hi] at hx2
      have := ((h _ (List.getElem_mem hi)).2 xs hx2).2
      omega
    · rw [List.eq_of_mem_replicate hx2]
      exact Nat.zero_le _
theorem pages_mk {p : Nat} {L : List (List (List Int))} {br bp kp : Int} (h : OkL p L) : ∀ B ∈ (mkC p L br bp kp).blocks, ∀ xs ∈ B.pages, xs.length ≤ 100000 := fun B hB xs hxs => by
  obtain ⟨C, hC, rfl⟩ := List.mem_map.1 hB
  have hx2 : xs ∈ C ++ List.replicate (p - C.length) [] := hxs
  rcases List.mem_append.1 hx2 with hx2 | hx2
  · have := ((h _ hC).2 xs hx2).2
    omega
  · rw [List.eq_of_mem_replicate hx2]
    exact Nat.zero_le _
theorem spots2_len {n p : Nat} (h1 : 1 ≤ n) (h2 : n ≤ 64) (h3 : 1 ≤ p) (h4 : p ≤ 32) : (spots2 n p).length = n * p := by
  rw [spots2_eq h1 h2 h3 h4]
  simp
end Go.Proofs.Ytkncmbbkehnagaa.Cm

set_option linter.unusedVariables false
set_option linter.unusedSimpArgs false
/-! A scan of a chip of sheets, step by step; the layer's awake. -/
namespace Go.Proofs.Ytkncmbbkehnagaa.Cm
open Go.RowKit Go.Proofs.YtkncmbbkehnagaaW.PrintWords Go.Proofs.YtkncmbbkehnagaaW.PrintLast Go.Proofs.YtkncmbbkehnagaaW.PrintMore Go.Proofs.Ytkncmbbkehnagaa.Kp Go.Proofs.Ytkncmbbkehnagaa.Cp Go.Proofs.Ytkncmbbkehnagaa.PAll Go.Proofs.Ytkncmbbkehnagaa.Iter Go.Proofs.Ytkncmbbkehnagaa.St Go.Proofs.Ytkncmbbkehnagaa.Sp Go.Proofs.Ytkncmbbkehnagaa.Pl1 Go.Proofs.Ytkncmbbkehnagaa.Pl2
attribute [local go_sem] max2_int min2_int max_two min_two max_three min_three max_four min_four

theorem Sc.open0 {w0 W : World} {b0 : Nat} {S : Nat → Prop} {g q : Nat} {s : Chp} {sp : List Sp2} {fs : List FD} {shs : List S28} (h : Sc w0 W b0 S g q s sp fs shs) : ∃ A c F cf vh, W.heap[q]? = some (.cells (scCells g (.slice A sp.length c) (.slice F fs.length cf) vh) 87 (0, 0)) ∧ Kd.C kFD W F fs.length fs := by
  obtain ⟨b1, A, c, vf, vh, h⟩ := h
  obtain ⟨F, cf, rfl, -, hC⟩ := Kd.R_reads h.f
  exact ⟨A, c, F, cf, vh, h.box, hC⟩
theorem sc_seq {w0 W : World} {b0 : Nat} {S : Nat → Prop} {g q : Nat} {s : Chp} {fs : List FD} {shs : List S28} (h : Sc w0 W b0 S g q s [] fs shs) (hl : fs.length ≤ 100000) : Calls Try.prog 18 #[.pointer (some ⟨q, 0, none⟩)] W fun e w' => e = .returned (.int .i64 (mostQ fs)) ∧ Below W.heap.size W w' := by
  obtain ⟨A, c, F, cf, vh, h1, h2⟩ := h.open0
  exact (mseq h1 h2 hl).mono (fun e w' h => h)
theorem sc_pick {w0 W : World} {b0 : Nat} {S : Nat → Prop} {g q cl : Nat} {Al : Option Addr} {live : List Rf} {s : Chp} {fs : List FD} {shs : List S28} (h : Sc w0 W b0 S g q s [] fs shs) (hL : Kd.C k2 W Al live.length live) (hcl : live.length ≤ cl) (hl : fs.length ≤ 100000) (hl2 : live.length ≤ 1000) (hwf : ∀ x ∈ fs, FDwf x) (hap : SpApart fs) :
    Calls Try.prog 16 #[.pointer (some ⟨q, 0, none⟩), .slice Al live.length cl] W fun e w' => ∃ v, e = .returned (.tuple #[v, .int .i64 (pickL live fs).2]) ∧ kFD.R 49 w' W.heap.size (fun _ => True) v (pickL live fs).1 ∧ Below W.heap.size W w' := by
  obtain ⟨A, c, F, cf, vh, h1, h2⟩ := h.open0
  exact mpick h1 h2 hL hcl hl hl2 hwf hap
/-- After k pages of a chip of sheets. -/
def Sg (w0 W : World) (b0 : Nat) (S : Nat → Prop) (g q : Nat) (s : Chp) (all : List Sp2) (k : Nat) : Prop := Sc w0 W b0 S g q (scanS s (all.take k)) (all.drop k) (scanF s (all.take k)) (scanN s (all.take k))
theorem Sg.step {w0 W W1 : World} {b0 : Nat} {S : Nat → Prop} {g q : Nat} {s : Chp} {all : List Sp2} {k : Nat} (h : Sg w0 W b0 S g q s all k) (hb : Below W.heap.size W W1) : Sg w0 W1 b0 S g q s all k := Sc.step h hb
theorem scan_move (s : Chp) (a b : List Sp2) : scanS (scanS s a) b = scanS s (a ++ b) ∧ scanF s a ++ scanF (scanS s a) b = scanF s (a ++ b) ∧ scanN s a ++ scanN (scanS s a) b = scanN s (a ++ b) := by
  obtain ⟨r, hr⟩ := scanS_same a s
  have e1 : scanF (scanS s a) b = scanF s b := by rw [hr]; rfl
  have e2 : scanN (scanS s a) b = scanN s b := by rw [hr]; rfl
  refine ⟨?_, ?_, ?_⟩
  · unfold scanS; rw [List.foldl_append]
  · rw [e1]; unfold scanF; rw [List.flatMap_append]
  · rw [e2]; unfold scanN; rw [List.flatMap_append]
theorem mkC_br (p : Nat) (L : List (List (List Int))) (br bp kp r : Int) : { mkC p L br bp kp with br := r } = mkC p L r bp kp := rfl
theorem sd_step {w0 w : World} {b0 : Nat} {S : Nat → Prop} {g q p : Nat} {L : List (List (List Int))} {br bp kp : Int} {k : Nat} (h : Sg w0 w b0 S g q (mkC p L br bp kp) (spots2 L.length p) k) (hL : OkL p L) (h1 : 1 ≤ L.length) (h2 : L.length ≤ 64) (h3 : 1 ≤ p) (h4 : p ≤ 32) (n : Int) (hn : 1 ≤ n) (hk : k ≤ L.length * p) (k' : Nat) (hk' : (k' : Int) = if ((L.length * p : Nat) : Int) < k + n then ((L.length * p : Nat) : Int) else k + n) :
    Calls Try.prog 15 #[.pointer (some ⟨q, 0, none⟩), .int .i64 n] w fun e w' => e = .returned (.tuple #[.bool (decide (L.length * p ≤ k')), .int .i64 0]) ∧ Sg w0 w' b0 S g q (mkC p L br bp kp) (spots2 L.length p) k' := by
  have hlen := spots2_len h1 h2 h3 h4
  have hbig : L.length * p ≤ 64 * 32 := Nat.mul_le_mul h2 h4
  obtain ⟨all, hall⟩ : ∃ all, spots2 L.length p = all := ⟨_, rfl⟩
  obtain ⟨N, hN⟩ : ∃ N, L.length * p = N := ⟨_, rfl⟩
  rw [hN] at hlen hbig hk hk' ⊢
  have hkk : k ≤ k' ∧ k' ≤ N := by split at hk' <;> omega
  obtain ⟨r, hr⟩ := scanS_same (all.take k) (mkC p L br bp kp)
  rw [mkC_br] at hr
  have hrd : Rdy (scanS (mkC p L br bp kp) (all.take k)) (all.drop k) := by
    rw [hr]
    exact rdy_mk hL h1 h2 h3 h4 (fun x hx => by rw [hall]; exact List.mem_of_mem_drop hx)
  rw [hall] at h hlen ⊢
  have f1 := scanF_le (mkC p L br bp kp) (all.take k)
  have f2 := scanN_le (mkC p L br bp kp) (all.take k)
  have f3 : (all.take k).length ≤ N := by rw [List.length_take]; omega
  have f4 : (all.drop k).length = N - k := by rw [List.length_drop, hlen]
  refine (mstep h n hn hrd (by omega) (by omega) (k' - k) (by rw [f4]; split at hk' <;> split <;> omega)).mono ?_
  rintro e w' ⟨rfl, hsc⟩
  obtain ⟨m1, m2, m3⟩ := scan_move (mkC p L br bp kp) (all.take k) ((all.drop k).take (k' - k))
  have et : all.take k ++ (all.drop k).take (k' - k) = all.take k' := by
    rw [← List.take_add]
    congr 1
    omega
  rw [et] at m1 m2 m3
  rw [m1, m2, m3, List.drop_drop, show k + (k' - k) = k' by omega] at hsc
  refine ⟨?_, hsc⟩
  have : decide ((all.drop k).length ≤ k' - k) = decide (N ≤ k') := by
    rw [decide_eq_decide, f4]
    omega
  rw [this]
/-- All was read. -/
theorem Sg.over {w0 w : World} {b0 : Nat} {S : Nat → Prop} {g q p : Nat} {L : List (List (List Int))} {br bp kp : Int} {k : Nat} (h : Sg w0 w b0 S g q (mkC p L br bp kp) (spots2 L.length p) k) (h1 : 1 ≤ L.length) (h2 : L.length ≤ 64) (h3 : 1 ≤ p) (h4 : p ≤ 32) (hk : L.length * p ≤ k) :
    Sc w0 w b0 S g q (scanS (mkC p L br bp kp) (spots2 L.length p)) [] ((List.range L.length).flatMap (fun i => blkF p i (L.getD i []))) (L.flatMap (blkN p)) := by
  have hlen := spots2_len h1 h2 h3 h4
  unfold Sg at h
  rw [List.take_of_length_le (by omega), List.drop_of_length_le (by omega), scanF_mk h1 h2 h3 h4, scanN_mk h1 h2 h3 h4] at h
  exact h
/-- New, of a chip of sheets. -/
theorem sd_new {w0 w : World} {b0 : Nat} {S : Nat → Prop} {g p : Nat} {L : List (List (List Int))} {br bp kp : Int} (hb : Below b0 w0 w) (h : Hd w b0 S g (mkC p L br bp kp)) (hL : OkL p L) (h1 : 1 ≤ L.length) :
    Calls Try.prog 14 #[.pointer (some ⟨g, 0, none⟩)] w fun e w' => ∃ q, e = .returned (.pointer (some ⟨q, 0, none⟩)) ∧ w.heap.size ≤ q ∧ Below w.heap.size w w' ∧ Sg w0 w' b0 S g q (mkC p L br bp kp) (spots2 L.length p) 0 := by
  refine (mnew hb h (by simp [mkC]; omega) (pages_mk hL)).mono ?_
  rintro e w' ⟨q, rfl, h1, h2, h3⟩
  have hbl : (mkC p L br bp kp).blocks.length = L.length := by simp [mkC]
  rw [hbl] at h3
  exact ⟨q, rfl, h1, h2, h3⟩
/-! ### awake -/
def rB : List Int := [0, 4, 1, 114, 90]
def xr : S28 := ⟨0, 4, [114]⟩
def awL : List (List (List Int)) := [[], lay [xr], []]
theorem code_small (n : Nat) (h : n < 128) : code n = [(n : Int)] := by
  unfold code
  rw [show n / 128 = 0 by omega, front_zero, List.nil_append, show n % 128 = n by omega]
theorem laid_r : laidL 0 4 [114] = rB := by
  unfold laidL
  rw [show clamp 0 = 0 from clamp_of 0 (by omega), show clamp 4 = 4 from clamp_of 4 (by omega), code_small 0 (by omega), code_small 4 (by omega), show ([114] : List Int).length = 1 from rfl, code_small 1 (by omega)]
  rfl
theorem may_r : mayB 0 4 [114] = true := mayB_iff.2 ⟨by decide, by decide, by decide, by decide, by decide, by rw [laid_r]; decide⟩
theorem lay_r : lay [xr] = [rB] := by
  show [laidL 0 4 [114]] = _
  rw [laid_r]
theorem aw_prog : progS (newS 3 2 []) 1 0 rB = (mkC 2 awL 0 1 0, 0) := by
  rw [new_mkC]
  have := prog_mk (p := 2) (L := List.replicate 3 []) 0 0 0 (i := 1) (B := []) rB rfl (by decide) (by decide) (by decide) (by decide)
  refine this.trans ?_
  unfold awL
  rw [lay_r, show wrap64 (0 + 1) = 1 by unfold wrap64; omega]
  rfl
theorem aw_ok : OkL 2 awL := by
  intro B hB
  unfold awL at hB
  rw [lay_r] at hB
  rcases List.mem_cons.1 hB with rfl | hB
  · exact ⟨by decide, fun x hx => by cases hx⟩
  · rcases List.mem_cons.1 hB with rfl | hB
    · refine ⟨by decide, fun x hx => ?_⟩
      obtain rfl := List.mem_singleton.1 hx
      exact ⟨fun y hy => by simp [rB] at hy; omega, by decide⟩
    · obtain rfl := List.mem_singleton.1 hB
      exact ⟨by decide, fun x hx => by cases hx⟩
theorem aw_bytes : ∃ k, potsherdref3_SheetBytes.f k 0 4 [114] = some (rB, 0) := by
  obtain ⟨k, hk⟩ := (refBytes_ev 0 4 [114]).rounds
  refine ⟨k, hk.trans ?_⟩
  unfold bytesL
  rw [if_pos may_r, laid_r]
theorem may_xr : ∀ x ∈ [xr], mayB x.f0 x.f1 x.f2 = true := fun x hx => by
  obtain rfl := List.mem_singleton.1 hx
  exact may_r
def awF : List FD := [⟨0, 4, 1, 0⟩]
theorem aw_F : (List.range awL.length).flatMap (fun i => blkF 2 i (awL.getD i [])) = awF := by
  show blkF 2 0 [] ++ (blkF 2 1 (lay [xr]) ++ (blkF 2 2 [] ++ [])) = _
  rw [blkF_nil, blkF_nil, blkF_lay (by decide) may_xr]
  rfl
theorem aw_N : awL.flatMap (blkN 2) = [xr] := by
  show blkN 2 [] ++ (blkN 2 (lay [xr]) ++ (blkN 2 [] ++ [])) = _
  rw [blkN_nil, blkN_lay (by decide) may_xr]
  rfl
theorem C_none8 (w : World) : Kd.C (Kd.int .i64) w none 0 [] := ⟨rfl, by omega, fun h => by omega⟩
/-- A row of Refs that was built. -/
theorem k2_lit {W : World} {b : Nat} {l : List Rf} (hl : l.length ≤ 1000) (h : ∀ j r, l[j]? = some r → W.cell? ⟨b, j * 2, none⟩ = some (.int .i64 r.1) ∧ W.cell? ⟨b, j * 2 + 1, none⟩ = some (.int .i64 r.2)) : Kd.C k2 W (some ⟨b, 0, none⟩) l.length l := by
  refine ⟨rfl, by omega, fun _ => ⟨_, rfl, fun j p hp => ?_⟩⟩
  obtain ⟨h1, h2⟩ := h j p hp
  refine ⟨[.int .i64 p.1, .int .i64 p.2], rfl, ⟨_, _, rfl, rfl, rfl⟩, fun i u hu => ?_⟩
  match i, hu with
  | 0, hu =>
    obtain rfl : _ = u := by simpa using hu
    rw [add_at]
    simpa [k2, Kd.pair, Kd.int, Kd.scalar] using h1
  | 1, hu =>
    obtain rfl : _ = u := by simpa using hu
    rw [add_at]
    simpa [k2, Kd.pair, Kd.int, Kd.scalar] using h2
  | i + 2, hu => simp at hu
theorem str_r : strOfNums [114] = { data := #[114] } := by decide +kernel
end Go.Proofs.Ytkncmbbkehnagaa.Cm

set_option linter.unusedVariables false
set_option linter.unusedSimpArgs false
/-! The layer's awake. -/
namespace Go.Proofs.Ytkncmbbkehnagaa.Cm
open Go.RowKit Go.Proofs.YtkncmbbkehnagaaW.PrintWords Go.Proofs.YtkncmbbkehnagaaW.PrintLast Go.Proofs.YtkncmbbkehnagaaW.PrintMore Go.Proofs.Ytkncmbbkehnagaa.Kp Go.Proofs.Ytkncmbbkehnagaa.Cp Go.Proofs.Ytkncmbbkehnagaa.PAll Go.Proofs.Ytkncmbbkehnagaa.Iter Go.Proofs.Ytkncmbbkehnagaa.St Go.Proofs.Ytkncmbbkehnagaa.Sp
attribute [local go_sem] max2_int min2_int max_two min_two max_three min_three max_four min_four

theorem lits_C (w : World) (xs : List Int) (hl : xs.length ≤ 1000000) (fr : Nat × Nat) : Kd.C (Kd.int .u8) (w.alloc (.cells (xs.map (Value.int .u8)).toArray 5 fr)) (some ⟨w.heap.size, 0, none⟩) xs.length xs :=
  C_lit (blk_new w _) (by simp) hl
/-- A row of one's own lies in new blocks. -/
theorem R_at {α : Type} {d : Kd α} {e base : Nat} {W : World} {ok : Nat → Prop} {A : Option Addr} {n c : Nat} {xs : List α} (h : d.R e W base ok (.slice A n c) xs) : ∀ ad, A = some ad → base ≤ ad.block ∧ ad.block < W.heap.size := by
  obtain ⟨inner, ho⟩ := Kd.R_own h
  rintro ad rfl
  have hk : ∃ k, (Value.slice (some ad) n c).ownBlock = some k ∧ k = ad.block := by
    obtain ⟨-, ⟨h1, -⟩ | ⟨g, _, _, h1, -⟩⟩ := ho
    · cases h1
    · injection h1 with h1
      injection h1 with h1
      subst h1
      exact ⟨g, rfl, rfl⟩
  obtain ⟨k, hk, rfl⟩ := hk
  exact ⟨own_base ho _ hk, own_lt ho _ hk⟩
theorem fdwf_of {x : S28} {i j : Nat} (h : mayB x.f0 x.f1 x.f2 = true) (hi : i ≤ 64) (hj : j ≤ 64) : FDwf (asF i j x) := by
  obtain ⟨h1, h2, h3, h4, -, -⟩ := mayB_iff.1 h
  exact ⟨⟨by show (0 : Int) ≤ i; omega, by show (i : Int) ≤ 10000; omega, by show (0 : Int) ≤ j; omega, by show (j : Int) ≤ 10000; omega⟩,
    rng_wf (by show (-9223372036854775808 : Int) ≤ x.f0; omega) (by show x.f0 ≤ (9223372036854775807 : Int); omega), rng_wf (by show (-9223372036854775808 : Int) ≤ x.f1; omega) (by show x.f1 ≤ (9223372036854775807 : Int); omega)⟩
theorem R_plain {α : Type} {d : Kd α} {e base : Nat} {W : World} {ok : Nat → Prop} {ad : Addr} {n c : Nat} {xs : List α} (h : d.R e W base ok (.slice (some ad) n c) xs) : ∃ g, ad = ⟨g, 0, none⟩ := by
  obtain ⟨inner, ho⟩ := Kd.R_own h
  obtain ⟨-, ⟨h1, -⟩ | ⟨g, _, _, h1, -⟩⟩ := ho
  · cases h1
  · injection h1 with h1
    injection h1 with h1
    exact ⟨g, h1⟩
set_option maxHeartbeats 4000000 in
set_option maxRecDepth 100000 in
theorem awake11 (w : World) : Calls Try.prog 9 #[] w fun e w' => e = .returned (.bool true) ∧ Below w.heap.size w w' := by
  obtain ⟨kk, hkk⟩ := aw_bytes
  have HKK := Aside0.mk hkk
  clear hkk
  go_enter Try.func9, Try.ntmps9
  go_wp2_with fail
  refine (newH w 3 2 none 0 [] (C_none8 w) (by decide) (by decide) (by decide) (by decide) (by decide) (by decide)).mono ?_
  rintro ev w1 ⟨g, rfl, hh, hbn⟩
  obtain ⟨S, hS⟩ : ∃ S : Nat → Prop, (fun k => w.heap.size ≤ k ∧ k < w1.heap.size) = S := ⟨_, rfl⟩
  rw [hS] at hh
  have HH1 := Aside0.mk hh
  have HB1 := Aside0.mk hbn
  clear hh hbn hS
  have kc := fun (w : World) (C : Array Value) (n c : Nat) => Lib.run_convert_bytes_const (P := Try.prog) w 26 5 C n c Try.underlying26 Try.underlying5
  go_wp2_with fail
  refine (potsherdref3_SheetBytes.calls kk 0 4 (some ⟨w1.heap.size, 0, none⟩) 1 [114] rB 0 _ (lits_C w1 [114] (by decide) _) (Nat.le_refl _) HKK.out).mono ?_
  rintro ev w2 ⟨v, rfl, hR, hb⟩
  clear kc
  have hb2 := below_step (below_alloc (Below.refl _ _) _) hb
  have HB2 := Aside0.mk (below_step HB1.out hb2)
  have HH2 := Aside0.mk (HH1.out.below hb2)
  obtain ⟨A2, c2, rfl, hc2, hC2⟩ := Kd.R_reads hR
  have HC2 := Aside0.mk hC2
  have HA2 : Aside0 (∀ ad, A2 = some ad → ad.block < w2.heap.size ∧ ¬ S ad.block) := ⟨fun ad hA => by
    obtain ⟨q1, q2⟩ := R_at hR ad hA
    refine ⟨q2, fun hs => ?_⟩
    have q3 := HH1.out.lt _ hs
    have q4 := (below_alloc (Below.refl w1.heap.size w1) (.cells #[.int .u8 114] 5 (1, 2))).size
    simp at q1
    omega⟩
  clear hR hb hb2 HB1 HH1 HKK hC2
  go_wp2_with fail
  refine (programH HH2.out 1 0 A2 c2 rB HC2.out hc2 HA2.out).mono ?_
  rintro ev w3 ⟨rfl, S3, hh3, hn3⟩
  rw [aw_prog] at hh3 ⊢
  have HB3 := Aside0.mk (HB2.out.trans hn3.bel)
  have HH3 := Aside0.mk hh3
  clear hh3 hn3 HC2 HA2 HH2 HB2 hc2
  go_wp2_with fail
  refine (sd_new HB3.out HH3.out aw_ok (by decide)).mono ?_
  rintro ev w4 ⟨q, rfl, hq, -, hs4⟩
  have HS4 := Aside0.mk hs4
  clear hs4 HB3 HH3 hq
  go_wp2_with fail
  refine (sd_step HS4.out aw_ok (by decide) (by decide) (by decide) (by decide) 4 (by decide) (by decide) 4 (by decide)).mono ?_
  rintro ev w5 ⟨rfl, hs5⟩
  have HS5 := Aside0.mk hs5
  clear hs5 HS4
  rw [show decide (awL.length * 2 ≤ 4) = false from rfl]
  go_wp2_with fail
  refine (sd_step HS5.out aw_ok (by decide) (by decide) (by decide) (by decide) 4 (by decide) (by decide) 6 (by decide)).mono ?_
  rintro ev w6 ⟨rfl, hs6⟩
  have hs6' := hs6.over (by decide) (by decide) (by decide) (by decide) (by decide)
  rw [aw_F, aw_N] at hs6'
  have HS6 := Aside0.mk hs6'
  clear hs6 HS5 hs6'
  rw [show decide (awL.length * 2 ≤ 6) = true from rfl]
  go_wp2_with fail
  refine (mroot HS6.out (by decide) (fun x hx => by obtain rfl := List.mem_singleton.1 hx; decide) (by decide)).mono ?_
  rintro ev w7 ⟨v, rfl, hR7, hb7⟩
  rw [show rootL [xr] = xr from rfl] at hR7 ⊢
  obtain ⟨A7, c7, rfl, hc7, hC7⟩ := Kd.R_reads hR7
  have HC7 := Aside0.mk hC7
  have HS7 := Aside0.mk (HS6.out.step hb7)
  clear hR7 hC7 hb7 HS6
  simp only [show (decide (0 < xr.f1)) = true from rfl, show xr.f0 = 0 from rfl, show xr.f1 = 4 from rfl, show xr.f2 = [114] from rfl] at HC7 hc7 ⊢
  go_upto_region 8 with fail
  obtain ⟨w8, hw8⟩ : ∃ W, w7.alloc (.cells #[.int .i64 0, .int .i64 4, (.slice A7 1 c7)] 28 (0, 0)) = W := ⟨_, rfl⟩
  obtain ⟨b7, hb7⟩ : ∃ b, w7.heap.size = b := ⟨_, rfl⟩
  have hbl8 : Below w7.heap.size w7 w8 := by rw [← hw8]; exact below_alloc (Below.refl _ _) _
  have HX8 : Aside0 (w8.heap[b7]? = some (.cells #[.int .i64 0, .int .i64 4, (.slice A7 1 c7)] 28 (0, 0))) := ⟨by rw [← hw8, ← hb7]; exact blk_new w7 _⟩
  have HS8 := Aside0.mk (HS7.out.step hbl8)
  have HC8 := Aside0.mk (Kd.C_below HC7.out hbl8)
  rw [hw8, hb7]
  clear hw8 hb7 hbl8 HS7 HC7
  go_wp2_with fail
  have hL8 : Kd.C k2 (w8.alloc (.cells #[.int .i64 0, .int .i64 4] 31)) (some ⟨w8.heap.size, 0, none⟩) 1 [(0, 4)] := k2_lit (l := [(0, 4)]) (by decide) (fun j r hj => by
    match j, hj with
    | 0, hj =>
      obtain rfl : ((0, 4) : Rf) = r := by simpa using hj
      exact two (blk_new w8 _)
    | j + 1, hj => simp at hj)
  refine (sc_pick (HS8.out.step (below_alloc (Below.refl _ _) _)) hL8 (by decide) (by decide) (by decide) (fun x hx => by obtain rfl := List.mem_singleton.1 hx; exact fdwf_of (x := xr) (i := 1) (j := 0) may_r (by decide) (by decide)) (List.pairwise_singleton _ _)).mono ?_
  rintro ev w9 ⟨v, rfl, hR9, hb9⟩
  rw [show pickL [(0, 4)] awF = (awF, 0) from by rfl] at hR9 ⊢
  obtain ⟨A9, c9, rfl, hc9, hC9⟩ := Kd.R_reads hR9
  have hb9' := below_step (below_alloc (Below.refl _ _) _) hb9
  have HX9 := Aside0.mk (blk_below HX8.out hb9')
  have HC9 := Aside0.mk (Kd.C_below HC8.out hb9')
  have HS9 := Aside0.mk (HS8.out.step hb9')
  have HF9 := Aside0.mk hC9
  have hpl := @R_plain _ kFD 49 w8.heap.size w9 (fun _ => True)
  have HP9 : Aside0 (∀ ad, A9 = some ad → ∃ g, ad = ⟨g, 0, none⟩) := ⟨fun ad hA => by subst hA; exact R_plain hR9⟩
  clear hpl hR9 hb9 hC9 hb9' hL8 HX8 HC8 HS8
  go_upto_region 9 with fail
  obtain ⟨-, -, hcell⟩ := shHeld3 HX9.out (Below.refl _ _)
  have hcv : (convert 26 9 (.slice A7 1 c7)).run Try.prog w9 = .ok (.string { data := #[114] }) w9 := conv22 (c := c7) HC9.out str_r
  obtain ⟨ad, rfl, hk1, hk2, hk3, hk4⟩ := fdAt HF9.out 0 (by decide)
  obtain ⟨b9, rfl⟩ := HP9.out ad rfl
  simp only [show awF.getD 0 zFD = ⟨0, 4, 1, 0⟩ from rfl, Nat.zero_mul, add_at, Nat.zero_add] at hk1 hk2 hk3 hk4
  have hlen9 : awF.length = 1 := rfl
  rw [hlen9]
  go_wp2_with fail
  refine (sc_seq HS9.out (by decide)).mono ?_
  rintro ev w10 ⟨rfl, hb10⟩
  have hk3' := pw_cell_below hb10 hk3
  have HB10 := Aside0.mk (HS9.out.step hb10).below
  clear hk1 hk2 hk3 hk4 hcell hcv HS9 HX9 HC9 HF9 hb10
  rw [show mostQ awF = 4 from rfl]
  go_wp2_with fail
  go_ret
  exact ⟨rfl, HB10.out⟩
end Go.Proofs.Ytkncmbbkehnagaa.Cm

set_option linter.unusedVariables false
set_option linter.unusedSimpArgs false
/-! MountNil. -/
namespace Go.Proofs.Ytkncmbbkehnagaa.Cm
open Go.RowKit Go.Proofs.YtkncmbbkehnagaaW.PrintWords Go.Proofs.YtkncmbbkehnagaaW.PrintLast Go.Proofs.YtkncmbbkehnagaaW.PrintMore Go.Proofs.Ytkncmbbkehnagaa.Kp Go.Proofs.Ytkncmbbkehnagaa.Cp Go.Proofs.Ytkncmbbkehnagaa.PAll Go.Proofs.Ytkncmbbkehnagaa.Iter Go.Proofs.Ytkncmbbkehnagaa.St Go.Proofs.Ytkncmbbkehnagaa.Sp
attribute [local go_sem] max2_int min2_int max_two min_two max_three min_three max_four min_four

structure S31 where
  f0 : Int
  f1 : Int
theorem Sg.next {w0 W : World} {b0 : Nat} {S : Nat → Prop} {g q k : Nat} {s : Chp} {all : List Sp2} (h : Sg w0 W b0 S g q s all k) : Sc w0 W b0 S g q (scanS s (all.take k)) (all.drop k) (scanF s (all.take k)) (scanN s (all.take k)) := h
theorem Sc.box {w0 W : World} {b0 : Nat} {S : Nat → Prop} {g q : Nat} {s : Chp} {sp : List Sp2} {fs : List FD} {shs : List S28} (h : Sc w0 W b0 S g q s sp fs shs) : ¬ S q ∧ ∃ vs vf vh, W.heap[q]? = some (.cells (scCells g vs vf vh) 87 (0, 0)) := by
  obtain ⟨b1, A, c, vf, vh, h⟩ := h
  refine ⟨fun hs => ?_, _, _, _, h.box⟩
  have := h.lt1 q hs
  have := h.q1
  omega
end Go.Proofs.Ytkncmbbkehnagaa.Cm

set_option linter.unusedVariables false
set_option linter.unusedSimpArgs false
/-! light; Steps. -/
namespace Go.Proofs.Ytkncmbbkehnagaa.Cm
open Go.RowKit Go.Proofs.YtkncmbbkehnagaaW.PrintWords Go.Proofs.YtkncmbbkehnagaaW.PrintLast Go.Proofs.YtkncmbbkehnagaaW.PrintMore Go.Proofs.Ytkncmbbkehnagaa.Kp Go.Proofs.Ytkncmbbkehnagaa.Cp Go.Proofs.Ytkncmbbkehnagaa.PAll Go.Proofs.Ytkncmbbkehnagaa.Iter Go.Proofs.Ytkncmbbkehnagaa.St Go.Proofs.Ytkncmbbkehnagaa.Sp
attribute [local go_sem] max2_int min2_int max_two min_two max_three min_three max_four min_four

def ltB (x : S28) : Bool := decide (x.f2.length ≤ 100)
set_option maxHeartbeats 2000000 in
set_option maxRecDepth 100000 in
theorem heavyNil (w : World) : Calls Try.prog 24 #[.slice none 0 0] w fun e w' => e = .returned (.int .i64 0) ∧ w' = w := by
  go_enter Try.func24, Try.ntmps24
  go_wp2_with fail
  go_loop [7] (fun v7 => v7 = .int .i64 0) (fun v7 => 0)
  case atStart => rfl
  case round =>
    subst hrel
    go_wp2
    go_ret
    exact ⟨rfl, rfl⟩
set_option maxHeartbeats 4000000 in
set_option maxRecDepth 100000 in
theorem light11 {w : World} {A : Option Addr} {c : Nat} {l : List S28} (hC : Kd.C k28 w A l.length l) (hl : l.length ≤ 60) : Calls Try.prog 8 #[.slice none 0 0, .slice A l.length c] w fun e w' => e = .returned (.bool (l.all ltB)) ∧ Below w.heap.size w w' := by
  have HC := Aside0.mk hC
  have HL := Aside0.mk hl
  obtain ⟨R, hR⟩ : ∃ R, l.all ltB = R := ⟨_, rfl⟩
  rw [hR]
  have HR := Aside0.mk hR
  have hl60 : decide ((l.length : Int) ≤ 60) = true := decide_eq_true (by omega)
  have hl60n : decide (l.length ≤ 60) = true := decide_eq_true (by omega)
  clear hC hl hR
  go_enter Try.func8, Try.ntmps8
  go_wp2_with fail
  go_loopw [9] (fun v9 wr => ∃ (k : Nat), k ≤ l.length ∧ v9 = .int .i64 (k : Int) ∧ Aside0 ((l.take k).all ltB = true) ∧ Aside0 (Below w.heap.size w wr)) (fun v9 _ => l.length - (intOf v9).toNat)
  case atStart => exact ⟨0, Nat.zero_le _, rfl, ⟨rfl⟩, ⟨Below.refl _ _⟩⟩
  case round =>
    obtain ⟨k, hk, rfl, HA, HB⟩ := hrel
    by_cases hlt : k < l.length
    · have hlt2 : (k : Int) < (l.length : Int) := by omega
      have HLT := Aside0.mk hlt
      have hw3 : wrap64 ((k : Int) + 1) = ((k + 1 : Nat) : Int) := by rw [show (k : Int) + 1 = ((k + 1 : Nat) : Int) by omega]; exact wrap_small _ (by omega) (by have := HL.out; omega)
      obtain ⟨x, hx⟩ : ∃ x, l[k]? = some x := ⟨_, List.getElem?_eq_getElem hlt⟩
      have hrd : rd_T28 l (k : Int) = x := by unfold rd_T28; rw [List.getD_eq_getElem?_getD, Int.toNat_natCast, hx]; rfl
      obtain ⟨ad, A5, c5, hA5, x0, x1, x2, hle5, hC5⟩ := at_T28 HC.out (k : Int) (by omega) hlt2
      replace x0 := pw_cell_below HB.out x0
      replace x1 := pw_cell_below HB.out x1
      replace x2 := pw_cell_below HB.out x2
      rw [hrd] at x0 x1 x2 hle5 hC5
      rw [Int.toNat_natCast] at x0 x1 x2
      cases hA5
      have HX := Aside0.mk hx
      clear hk hlt hx hrd hC5 hle5
      go_upto_region 4 with fail
      obtain ⟨w6, hw6⟩ : ∃ w6, wr.alloc (.cells #[.int .i64 x.f0, .int .i64 x.f1, .slice A5 x.f2.length c5] 28) = w6 := ⟨_, rfl⟩
      obtain ⟨b6, hb6⟩ : ∃ x, wr.heap.size = x := ⟨_, rfl⟩
      have HB6 : Aside0 (Below w.heap.size w w6) := ⟨by rw [← hw6]; exact below_alloc HB.out _⟩
      have hx6 : w6.heap[b6]? = some (.cells #[.int .i64 x.f0, .int .i64 x.f1, .slice A5 x.f2.length c5] 28 (0, 0)) := by rw [← hw6, ← hb6]; exact blk_new wr _
      rw [hw6, hb6]
      clear x0 x1 x2
      obtain ⟨x0, x1, x2, -, -, -⟩ := Parse.three hx6
      clear hw6 hb6 hx6
      have hstep : (l.take (k + 1)).all ltB = decide (x.f2.length ≤ 100) := by
        rw [take_snoc2 l k x HX.out, List.all_append, HA.out]
        simp [ltB]
      by_cases hp : x.f2.length ≤ 100
      · have d1 : decide ((100 : Int) < x.f2.length) = false := decide_eq_false (by omega)
        have d2 : decide (100 < x.f2.length) = false := decide_eq_false (by omega)
        rw [decide_eq_true hp] at hstep
        have HS := Aside0.mk hstep
        clear hp hstep HA HB
        go_wp2_with fail
        clear x0 x1 x2
        go_roundw
        case measure =>
          have hm : l.length - ((k + 1 : Nat) : Int).toNat < l.length - ((k : Nat) : Int).toNat := by
            rw [Int.toNat_natCast, Int.toNat_natCast]
            exact Nat.sub_lt_sub_left HLT.out (Nat.lt_succ_self k)
          first | exact hm | (rw [hw3]; exact hm)
        case rel => exact ⟨k + 1, HLT.out, by first | rw [hw3] | rfl, HS, HB6⟩
      · have d1 : decide ((100 : Int) < x.f2.length) = true := decide_eq_true (by omega)
        have d2 : decide (100 < x.f2.length) = true := decide_eq_true (by omega)
        have hRf : R = false := by
          rw [← HR.out]
          rw [← List.take_append_drop (k + 1) l, List.all_append, hstep, decide_eq_false hp]
          rfl
        subst hRf
        clear hp hstep HA HB
        go_wp2_with fail
        go_ret
        exact ⟨rfl, HB6.out⟩
    · have hke : k = l.length := by omega
      have hRt : R = true := by
        rw [← HR.out]
        have := HA.out
        rw [hke, List.take_length] at this
        exact this
      subst hRt
      have hlt2 : ¬ ((k : Int) < (l.length : Int)) := by omega
      subst hke
      have HB2 := HB
      clear hlt hk HA
      go_wp2_with fail
      refine (heavyNil wr).mono ?_
      rintro ev w8 ⟨rfl, hw⟩
      rw [hw]
      clear hw w8
      go_wp2_with fail
      go_ret
      exact ⟨rfl, HB.out⟩
end Go.Proofs.Ytkncmbbkehnagaa.Cm

set_option linter.unusedVariables false
set_option linter.unusedSimpArgs false
/-! Steps. -/
namespace Go.Proofs.Ytkncmbbkehnagaa.Cm
open Go.RowKit Go.Proofs.YtkncmbbkehnagaaW.PrintWords Go.Proofs.YtkncmbbkehnagaaW.PrintLast Go.Proofs.YtkncmbbkehnagaaW.PrintMore Go.Proofs.Ytkncmbbkehnagaa.Kp Go.Proofs.Ytkncmbbkehnagaa.Cp Go.Proofs.Ytkncmbbkehnagaa.PAll Go.Proofs.Ytkncmbbkehnagaa.Iter Go.Proofs.Ytkncmbbkehnagaa.St Go.Proofs.Ytkncmbbkehnagaa.Sp
attribute [local go_sem] max2_int min2_int max_two min_two max_three min_three max_four min_four

end Go.Proofs.Ytkncmbbkehnagaa.Cm

set_option linter.unusedVariables false
set_option linter.unusedSimpArgs false
/-! MountNew, plainly. -/
namespace Go.Proofs.Ytkncmbbkehnagaa.Cm
open Go.RowKit Go.Proofs.YtkncmbbkehnagaaW.PrintWords Go.Proofs.YtkncmbbkehnagaaW.PrintLast Go.Proofs.YtkncmbbkehnagaaW.PrintMore Go.Proofs.Ytkncmbbkehnagaa.Kp Go.Proofs.Ytkncmbbkehnagaa.Cp Go.Proofs.Ytkncmbbkehnagaa.PAll Go.Proofs.Ytkncmbbkehnagaa.Iter Go.Proofs.Ytkncmbbkehnagaa.St Go.Proofs.Ytkncmbbkehnagaa.Sp Go.Proofs.Ytkncmbbkehnagaa.Pl1 Go.Proofs.Ytkncmbbkehnagaa.Pl2

theorem lay_len (l : List S28) : (lay l).length = l.length := by simp [lay]
theorem lay_snoc (l : List S28) (x : S28) : lay (l ++ [x]) = lay l ++ [laidL x.f0 x.f1 x.f2] := by simp [lay]
theorem lay_mem {l : List S28} {y : List Int} (h : y ∈ lay l) : ∃ x ∈ l, y = laidL x.f0 x.f1 x.f2 := by
  obtain ⟨x, hx, rfl⟩ := List.mem_map.1 h
  exact ⟨x, hx, rfl⟩
def GoodS (x : S28) : Prop := mayB x.f0 x.f1 x.f2 = true ∧ Bytes x.f2
theorem GoodS.fine {x : S28} (h : GoodS x) : Bytes (laidL x.f0 x.f1 x.f2) ∧ 1 ≤ (laidL x.f0 x.f1 x.f2).length ∧ (laidL x.f0 x.f1 x.f2).length ≤ 2000 := by
  obtain ⟨h1, h2, h3, h4, h5, h6⟩ := mayB_iff.1 h.1
  refine ⟨Go.Proofs.Ytkncmbbkehnagaa.Bd.laid_bytes h.2 (by omega), ?_, h6⟩
  unfold laidL
  simp only [List.length_append, List.length_singleton]
  omega
theorem lay_ok {p : Nat} {l : List S28} (hl : l.length ≤ p) (h : ∀ x ∈ l, GoodS x) : (lay l).length ≤ p ∧ ∀ y ∈ lay l, Bytes y ∧ y.length ≤ 2000 := by
  refine ⟨by rw [lay_len]; exact hl, fun y hy => ?_⟩
  obtain ⟨x, hx, rfl⟩ := lay_mem hy
  exact ⟨(h x hx).fine.1, (h x hx).fine.2.2⟩
theorem nil_blk (p : Nat) : ([] : List (List Int)).length ≤ p ∧ ∀ y ∈ ([] : List (List Int)), Bytes y ∧ y.length ≤ 2000 := ⟨Nat.zero_le _, fun y hy => by cases hy⟩
theorem fds_len (i : Nat) (l : List S28) : (fds i l).length = l.length := by simp [fds]
end Go.Proofs.Ytkncmbbkehnagaa.Cm

set_option linter.unusedVariables false
set_option linter.unusedSimpArgs false
/-! What is picked, plainly. -/
namespace Go.Proofs.Ytkncmbbkehnagaa.Cm
open Go.RowKit Go.Proofs.YtkncmbbkehnagaaW.PrintWords Go.Proofs.YtkncmbbkehnagaaW.PrintLast Go.Proofs.YtkncmbbkehnagaaW.PrintMore Go.Proofs.Ytkncmbbkehnagaa.Kp Go.Proofs.Ytkncmbbkehnagaa.Cp Go.Proofs.Ytkncmbbkehnagaa.PAll Go.Proofs.Ytkncmbbkehnagaa.Iter Go.Proofs.Ytkncmbbkehnagaa.St Go.Proofs.Ytkncmbbkehnagaa.Sp Go.Proofs.Ytkncmbbkehnagaa.Pl1 Go.Proofs.Ytkncmbbkehnagaa.Pl2

theorem fds_mem {i : Nat} {l : List S28} {x : FD} (h : x ∈ fds i l) : ∃ (j : Nat) (s : S28), j < l.length ∧ l[j]? = some s ∧ x = asF i j s := by
  obtain ⟨j, hj, rfl⟩ := List.mem_map.1 h
  have hj := List.mem_range.1 hj
  exact ⟨j, l[j], hj, List.getElem?_eq_getElem hj, by rw [getD_at z28 hj]⟩
theorem fds_wf {i : Nat} {l : List S28} (hi : i ≤ 64) (hl : l.length ≤ 64) (h : ∀ x ∈ l, GoodS x) : ∀ x ∈ fds i l, FDwf x := fun x hx => by
  obtain ⟨j, s, hj, hs, rfl⟩ := fds_mem hx
  exact fdwf_of (h s (List.mem_of_getElem? hs)).1 hi (by omega)
theorem fds_ap (i : Nat) (l : List S28) : SpApart (fds i l) := by
  unfold SpApart fds
  rw [List.pairwise_map]
  refine List.Pairwise.imp ?_ List.pairwise_lt_range
  intro a b hab e
  have : ((a : Nat) : Int) = (b : Int) := congrArg Prod.snd e
  omega
end Go.Proofs.Ytkncmbbkehnagaa.Cm

set_option linter.unusedVariables false
set_option linter.unusedSimpArgs false
/-! MountDoubles, plainly. -/
namespace Go.Proofs.Ytkncmbbkehnagaa.Cm
open Go.RowKit Go.Proofs.YtkncmbbkehnagaaW.PrintWords Go.Proofs.YtkncmbbkehnagaaW.PrintLast Go.Proofs.YtkncmbbkehnagaaW.PrintMore Go.Proofs.Ytkncmbbkehnagaa.Kp Go.Proofs.Ytkncmbbkehnagaa.Cp Go.Proofs.Ytkncmbbkehnagaa.PAll Go.Proofs.Ytkncmbbkehnagaa.Iter Go.Proofs.Ytkncmbbkehnagaa.St Go.Proofs.Ytkncmbbkehnagaa.Sp Go.Proofs.Ytkncmbbkehnagaa.Pl1 Go.Proofs.Ytkncmbbkehnagaa.Pl2

def refS (x : S28) : Rf := (x.f0, x.f1)
def Apart (l : List S28) : Prop := l.Pairwise (fun a b => a.f0 ≠ b.f0)
theorem Apart.ne {l : List S28} (h : Apart l) {a b : Nat} {x y : S28} (hx : l[a]? = some x) (hy : l[b]? = some y) (hne : a ≠ b) : x.f0 ≠ y.f0 := by
  obtain ⟨ha, rfl⟩ := List.getElem?_eq_some_iff.1 hx
  obtain ⟨hb, rfl⟩ := List.getElem?_eq_some_iff.1 hy
  rcases Nat.lt_or_gt_of_ne hne with h1 | h1
  · exact List.pairwise_iff_getElem.1 h a b ha hb h1
  · exact (List.pairwise_iff_getElem.1 h b a hb ha h1).symm
theorem Apart.take {l : List S28} (h : Apart l) (k : Nat) : Apart (l.take k) := List.Pairwise.sublist (List.take_sublist k l) h
theorem fds_snoc (i : Nat) (l : List S28) (k : Nat) (x : S28) (h : l[k]? = some x) : fds i (l.take (k + 1)) = fds i (l.take k) ++ [asF i k x] := by
  have hk := (List.getElem?_eq_some_iff.1 h).1
  have e1 : (l.take (k + 1)).length = k + 1 := by rw [List.length_take]; omega
  have e2 : (l.take k).length = k := by rw [List.length_take]; omega
  unfold fds
  rw [e1, e2, List.range_succ, List.map_append]
  congr 1
  · refine List.map_congr_left (fun j hj => ?_)
    have hj := List.mem_range.1 hj
    congr 1
    rw [getD_at z28 (by omega), getD_at z28 (by omega), List.getElem_take, List.getElem_take]
  · simp only [List.map_cons, List.map_nil]
    rw [getD_at z28 (by omega), List.getElem_take, (List.getElem?_eq_some_iff.1 h).2]
theorem keepF_app (a b : List FD) (r : Rf) : keepF (a ++ b) r = keepF a r ++ keepF b r := by unfold keepF; rw [List.filter_append]
theorem keepF_one (x : FD) (r : Rf) : keepF [x] r = if x.p = r.1 ∧ x.q = r.2 then [x] else [] := by
  unfold keepF delB
  by_cases h : x.p = r.1 ∧ x.q = r.2
  · rw [if_pos h]; simp [h.1, h.2]
  · rw [if_neg h]; simp only [List.filter_cons, List.filter_nil]; simp; intro h1 h2; exact h ⟨h1, h2⟩
theorem keepF_fds {l : List S28} (ha : Apart l) (i j : Nat) (s : S28) (hs : l[j]? = some s) : ∀ k, k ≤ l.length → keepF (fds i (l.take k)) (refS s) = if j < k then [asF i j s] else [] := by
  intro k
  induction k with
  | zero => intro _; rfl
  | succ k ih =>
    intro hk
    have hx : l[k]? = some l[k] := List.getElem?_eq_getElem (by omega)
    rw [fds_snoc i l k _ hx, keepF_app, ih (by omega), keepF_one]
    by_cases e : j = k
    · subst e
      rw [hs] at hx
      injection hx with hx
      rw [← hx, if_neg (Nat.lt_irrefl j), if_pos (⟨rfl, rfl⟩ : (asF i j s).p = (refS s).1 ∧ (asF i j s).q = (refS s).2), if_pos (Nat.lt_succ_self j)]
      rfl
    · have hne := ha.ne hx hs (fun h => e h.symm)
      have hne2 : ¬ ((asF i k l[k]).p = (refS s).1 ∧ (asF i k l[k]).q = (refS s).2) := fun h => hne h.1
      rw [if_neg hne2, List.append_nil]
      by_cases h2 : j < k
      · rw [if_pos h2, if_pos (by omega)]
      · rw [if_neg h2, if_neg (by omega)]
theorem held_fold {l : List S28} (ha : Apart l) (live : List Rf) (hlive : ∀ x ∈ l, refS x ∈ live) (i : Nat) (t : Tab) (ht : t i = none) : ∀ k, k ≤ l.length → ∃ T : List (Rf × Rf), T.length = k ∧ (∀ y ∈ T, ∃ a x, a < k ∧ l[a]? = some x ∧ y.1 = refS x) ∧ ((fds i (l.take k)).foldl (heldS live) t) i = (if k = 0 then none else some T) ∧ ∀ j : Int, j ≠ i → ((fds i (l.take k)).foldl (heldS live) t) j = t j := by
  intro k
  induction k with
  | zero => exact fun _ => ⟨[], rfl, fun y hy => (by cases hy), ht, fun j _ => rfl⟩
  | succ k ih =>
    intro hk
    obtain ⟨T, h1, h2, h3, h4⟩ := ih (by omega)
    have hx : l[k]? = some l[k] := List.getElem?_eq_getElem (by omega)
    obtain ⟨x, hxe⟩ : ∃ x, l[k] = x := ⟨_, rfl⟩
    rw [hxe] at hx
    rw [fds_snoc i l k x hx, List.foldl_append]
    obtain ⟨tk, htk⟩ : ∃ tk, (fds i (l.take k)).foldl (heldS live) t = tk := ⟨_, rfl⟩
    rw [htk] at h3 h4 ⊢
    have hany : live.any (rfB (rfOf (asF i k x))) = true := List.any_eq_true.2 ⟨refS x, hlive x (List.mem_of_getElem? hx), by
      show rfB (refS x) (refS x) = true
      simp [rfB]⟩
    have hT : ((tk i).getD []) = T := by
      rw [h3]
      by_cases h0 : k = 0
      · rw [if_pos h0]
        exact (List.eq_nil_of_length_eq_zero (h1.trans h0)).symm
      · rw [if_neg h0]
        rfl
    have hflt : T.filter (fun y => !rfB (refS x) y.1) = T := by
      refine List.filter_eq_self.2 (fun y hy => ?_)
      obtain ⟨a, z, ha1, hz, he⟩ := h2 y hy
      have := ha.ne hz hx (by omega)
      rw [he]
      show (!((refS z).1 == (refS x).1 && (refS z).2 == (refS x).2)) = true
      have hb : ((refS z).1 == (refS x).1) = false := beq_eq_false_iff_ne.2 this
      rw [hb]
      rfl
    refine ⟨T ++ [(refS x, spOf (asF i k x))], by rw [List.length_append, h1]; rfl, fun y hy => ?_, ?_, fun j hj => ?_⟩
    · rcases List.mem_append.1 hy with hy | hy
      · obtain ⟨a, z, ha1, hz, he⟩ := h2 y hy
        exact ⟨a, z, by omega, hz, he⟩
      · rw [List.mem_singleton.1 hy]
        exact ⟨k, x, by omega, hx, rfl⟩
    · show heldS live tk (asF i k x) i = _
      unfold heldS
      rw [if_pos hany]
      show (if (i : Int) = (i : Int) then some (putL ((tk (i : Int)).getD []) (refS x) (spOf (asF i k x))) else tk (i : Int)) = if k + 1 = 0 then none else some (T ++ [(refS x, spOf (asF i k x))])
      rw [if_pos rfl, if_neg (Nat.succ_ne_zero k), hT]
      unfold putL
      rw [hflt]
    · show heldS live tk (asF i k x) j = _
      unfold heldS
      rw [if_pos hany]
      show (if j = (i : Int) then _ else tk j) = _
      rw [if_neg hj]
      exact h4 j hj
theorem held_len {xs ys : List S28} (h1 : Apart xs) (h2 : Apart ys) (live : List Rf) (l1 : ∀ x ∈ xs, refS x ∈ live) (l2 : ∀ x ∈ ys, refS x ∈ live) (A B : Nat) (hAB : A ≠ B) : heldH live (fds A xs ++ fds B ys) A = xs.length ∧ heldH live (fds A xs ++ fds B ys) B = ys.length := by
  obtain ⟨T, a1, -, a3, a4⟩ := held_fold h1 live l1 A (fun _ => none) rfl xs.length (Nat.le_refl _)
  rw [List.take_length] at a3 a4
  obtain ⟨U, b1, -, b3, b4⟩ := held_fold h2 live l2 B ((fds A xs).foldl (heldS live) (fun _ => none)) (a4 B (by omega)) ys.length (Nat.le_refl _)
  rw [List.take_length] at b3 b4
  have e : heldT live (fds A xs ++ fds B ys) = (fds B ys).foldl (heldS live) ((fds A xs).foldl (heldS live) (fun _ => none)) := by unfold heldT; rw [List.foldl_append]
  unfold heldH
  rw [e, b3, b4 A (by omega), a3]
  constructor
  · by_cases h0 : xs.length = 0
    · rw [if_pos h0, h0]; rfl
    · rw [if_neg h0]; show ((T.length : Nat) : Int) = _; rw [a1]
  · by_cases h0 : ys.length = 0
    · rw [if_pos h0, h0]; rfl
    · rw [if_neg h0]; show ((U.length : Nat) : Int) = _; rw [b1]
/-- What stands in the chip of MountDoubles. -/
def dbF (l : List S28) (m : Nat) (up : Bool) : List FD := if up = true then fds 0 (l.take m) ++ fds 2 l else fds 0 l ++ fds 2 (l.take m)
def dbB (l : List S28) (m : Nat) (up : Bool) : Nat := if up = true ∧ m < l.length then 2 else 0
theorem min_two (H : Int → Int) (a b : FD) : minF H [a, b] = if cmpF H b a < 0 then b else a := rfl
theorem db_pick {l : List S28} (ha : Apart l) (m : Nat) (hm : m ≤ l.length) (up : Bool) (j : Nat) (s : S28) (hs : l[j]? = some s) : pickOne (l.map refS) (dbF l m up) (refS s) = asF (dbB l m up) j s ∧ keepF (dbF l m up) (refS s) ≠ [] := by
  have hj := (List.getElem?_eq_some_iff.1 hs).1
  have hl1 : ∀ x ∈ l, refS x ∈ l.map refS := fun x hx => List.mem_map.2 ⟨x, hx, rfl⟩
  have hl2 : ∀ x ∈ l.take m, refS x ∈ l.map refS := fun x hx => hl1 x (List.mem_of_mem_take hx)
  have k1 : ∀ i, keepF (fds i l) (refS s) = [asF i j s] := fun i => by
    have := keepF_fds ha i j s hs l.length (Nat.le_refl _)
    rw [List.take_length, if_pos hj] at this
    exact this
  have k2 := fun i => keepF_fds ha i j s hs m hm
  have hmt : (l.take m).length = m := by rw [List.length_take]; omega
  unfold pickOne dbF dbB
  cases up with
  | true =>
    simp only [if_true, true_and]
    obtain ⟨H0, H2⟩ := held_len (ha.take m) ha (l.map refS) hl2 hl1 0 2 (by decide)
    rw [keepF_app, k1, k2]
    by_cases h : j < m
    · rw [if_pos h]
      refine ⟨?_, by simp⟩
      show minF _ [asF 0 j s, asF 2 j s] = _
      rw [min_two]
      unfold cmpF
      show (if (if heldH (l.map refS) (fds 0 (l.take m) ++ fds 2 l) ((0 : Nat) : Int) - heldH (l.map refS) (fds 0 (l.take m) ++ fds 2 l) ((2 : Nat) : Int) ≠ 0 then heldH (l.map refS) (fds 0 (l.take m) ++ fds 2 l) ((0 : Nat) : Int) - heldH (l.map refS) (fds 0 (l.take m) ++ fds 2 l) ((2 : Nat) : Int) else if (2 : Int) - 0 ≠ 0 then (2 : Int) - 0 else (j : Int) - j) < 0 then asF 2 j s else asF 0 j s) = _
      rw [H0, H2, hmt]
      by_cases h2 : m < l.length
      · rw [if_pos h2, if_pos (show (m : Int) - l.length ≠ 0 by omega), if_pos (by omega)]
        rfl
      · have hc : ¬ ((if (2 : Int) - 0 ≠ 0 then (2 : Int) - 0 else (j : Int) - j) < 0) := by
          rw [if_pos (by decide)]
          decide
        rw [if_neg h2, if_neg (show ¬ ((m : Int) - l.length ≠ 0) by omega), if_neg hc]
        rfl
    · rw [if_neg h, if_pos (show m < l.length by omega)]
      exact ⟨rfl, by simp⟩
  | false =>
    simp only [Bool.false_eq_true, if_false, false_and]
    obtain ⟨H0, H2⟩ := held_len ha (ha.take m) (l.map refS) hl1 hl2 0 2 (by decide)
    rw [keepF_app, k1, k2]
    by_cases h : j < m
    · rw [if_pos h]
      refine ⟨?_, by simp⟩
      show minF _ [asF 0 j s, asF 2 j s] = _
      rw [min_two]
      unfold cmpF
      show (if (if heldH (l.map refS) (fds 0 l ++ fds 2 (l.take m)) ((0 : Nat) : Int) - heldH (l.map refS) (fds 0 l ++ fds 2 (l.take m)) ((2 : Nat) : Int) ≠ 0 then heldH (l.map refS) (fds 0 l ++ fds 2 (l.take m)) ((0 : Nat) : Int) - heldH (l.map refS) (fds 0 l ++ fds 2 (l.take m)) ((2 : Nat) : Int) else if (2 : Int) - 0 ≠ 0 then (2 : Int) - 0 else (j : Int) - j) < 0 then asF 2 j s else asF 0 j s) = _
      rw [H0, H2, hmt]
      have hc : ¬ ((if (l.length : Int) - (m : Int) ≠ 0 then (l.length : Int) - (m : Int) else if (2 : Int) - 0 ≠ 0 then (2 : Int) - 0 else (j : Int) - j) < 0) := by
        split
        · omega
        · rw [if_pos (by decide)]
          decide
      rw [if_neg hc]
      rfl
    · rw [if_neg h]
      exact ⟨rfl, by simp⟩
theorem twice_apart {l : List S28} (ha : Apart l) : twiceB (l.map refS) = false := by
  unfold twiceB twiceN
  refine List.any_eq_false.2 (fun i hi => ?_)
  have hi := List.mem_range.1 hi
  rw [List.length_map] at hi
  rw [Bool.not_eq_true]
  refine List.any_eq_false.2 (fun r hr => ?_)
  rw [← List.map_take] at hr
  obtain ⟨x, hx, rfl⟩ := List.mem_map.1 hr
  obtain ⟨a, ha1, hax⟩ := List.getElem_of_mem hx
  have ha2 : a < i := by rw [List.length_take] at ha1; omega
  rw [List.getElem_take] at hax
  have h1 : l[a]? = some x := by rw [List.getElem?_eq_getElem (by omega), hax]
  have h2 : l[i]? = some l[i] := List.getElem?_eq_getElem hi
  have := ha.ne h1 h2 (by omega)
  unfold pgB
  rw [getD_at (0, 0) (by rw [List.length_map]; exact hi), List.getElem_map]
  show ¬ ((x.f0 == l[i].f0) = true)
  simpa using this
/-- All that is picked. -/
theorem db_all {l : List S28} (ha : Apart l) (m : Nat) (hm : m ≤ l.length) (up : Bool) : pickL (l.map refS) (dbF l m up) = (fds (dbB l m up) l, 0) := by
  unfold pickL
  rw [twice_apart ha, if_neg (by decide), if_neg]
  · congr 1
    refine List.ext_getElem (by rw [List.length_map, List.length_map, fds_len]) (fun i h1 h2 => ?_)
    rw [List.length_map, List.length_map] at h1
    rw [List.getElem_map, List.getElem_map, (db_pick ha m hm up i l[i] (List.getElem?_eq_getElem h1)).1]
    simp only [fds, List.getElem_map, List.getElem_range]
    rw [getD_at z28 h1]
  · intro h
    obtain ⟨r, hr, he⟩ := List.any_eq_true.1 h
    obtain ⟨x, hx, rfl⟩ := List.mem_map.1 hr
    obtain ⟨a, ha1, hax⟩ := List.getElem_of_mem hx
    have := (db_pick ha m hm up a x (by rw [List.getElem?_eq_getElem ha1, hax])).2
    exact this (List.isEmpty_iff.1 he)
theorem db_ap (l ys : List S28) : SpApart (fds 0 l ++ fds 2 ys) := by
  refine List.pairwise_append.2 ⟨fds_ap 0 l, fds_ap 2 ys, fun a ha b hb e => ?_⟩
  obtain ⟨i, s, _, _, rfl⟩ := fds_mem ha
  obtain ⟨j, s', _, _, rfl⟩ := fds_mem hb
  have h1 : ((0 : Nat) : Int) = ((2 : Nat) : Int) := congrArg Prod.fst e
  omega
theorem dbF_ap (l : List S28) (m : Nat) (up : Bool) : SpApart (dbF l m up) := by
  unfold dbF
  split
  · exact db_ap _ _
  · exact db_ap _ _
theorem dbF_wf {l : List S28} (m : Nat) (up : Bool) (hl : l.length ≤ 64) (h : ∀ x ∈ l, GoodS x) : ∀ x ∈ dbF l m up, FDwf x := by
  have ht : (l.take m).length ≤ 64 := by rw [List.length_take]; omega
  have hg : ∀ x ∈ l.take m, GoodS x := fun x hx => h x (List.mem_of_mem_take hx)
  unfold dbF
  split
  · intro x hx
    rcases List.mem_append.1 hx with hx | hx
    · exact fds_wf (by decide) ht hg x hx
    · exact fds_wf (by decide) hl h x hx
  · intro x hx
    rcases List.mem_append.1 hx with hx | hx
    · exact fds_wf (by decide) hl h x hx
    · exact fds_wf (by decide) ht hg x hx
theorem dbF_len (l : List S28) (m : Nat) (up : Bool) : (dbF l m up).length ≤ 2 * l.length := by
  unfold dbF
  split
  · rw [List.length_append, fds_len, fds_len, List.length_take]; omega
  · rw [List.length_append, fds_len, fds_len, List.length_take]; omega
/-- The chip after so many sheets: k of them laid, a of them copied. -/
def dbL (l : List S28) (k a : Nat) (up : Bool) : List (List (List Int)) := if up = true then [lay (l.take a), [], lay (l.take k)] else [lay (l.take k), [], lay (l.take a)]
theorem dbL_len (l : List S28) (k a : Nat) (up : Bool) : (dbL l k a up).length = 3 := by unfold dbL; split <;> rfl
theorem dbL_ok {l : List S28} (k a : Nat) (up : Bool) (hl : l.length ≤ 32) (h : ∀ x ∈ l, GoodS x) : OkL 32 (dbL l k a up) := by
  have o : ∀ k, (lay (l.take k)).length ≤ 32 ∧ ∀ y ∈ lay (l.take k), Bytes y ∧ y.length ≤ 2000 := fun k => lay_ok (by rw [List.length_take]; omega) (fun x hx => h x (List.mem_of_mem_take hx))
  intro B hB
  unfold dbL at hB
  split at hB <;>
  · rcases List.mem_cons.1 hB with rfl | hB
    · exact o _
    · rcases List.mem_cons.1 hB with rfl | hB
      · exact nil_blk 32
      · rw [List.mem_singleton.1 hB]
        exact o _
theorem db_F {l : List S28} (m : Nat) (up : Bool) (hl : l.length ≤ 32) (h : ∀ x ∈ l, GoodS x) : (List.range (dbL l l.length m up).length).flatMap (fun i => blkF 32 i ((dbL l l.length m up).getD i [])) = dbF l m up := by
  have hg : ∀ k, blkF 32 0 (lay (l.take k)) = fds 0 (l.take k) ∧ blkF 32 2 (lay (l.take k)) = fds 2 (l.take k) := fun k =>
    ⟨blkF_lay (by rw [List.length_take]; omega) (fun x hx => (h x (List.mem_of_mem_take hx)).1), blkF_lay (by rw [List.length_take]; omega) (fun x hx => (h x (List.mem_of_mem_take hx)).1)⟩
  rw [dbL_len]
  unfold dbL dbF
  cases up with
  | true =>
    simp only [if_true]
    show blkF 32 0 (lay (l.take m)) ++ (blkF 32 1 [] ++ (blkF 32 2 (lay (l.take l.length)) ++ [])) = _
    rw [blkF_nil, (hg m).1, (hg l.length).2, List.take_length]
    simp
  | false =>
    simp only [Bool.false_eq_true, if_false]
    show blkF 32 0 (lay (l.take l.length)) ++ (blkF 32 1 [] ++ (blkF 32 2 (lay (l.take m)) ++ [])) = _
    rw [blkF_nil, (hg l.length).1, (hg m).2, List.take_length]
    simp
end Go.Proofs.Ytkncmbbkehnagaa.Cm

