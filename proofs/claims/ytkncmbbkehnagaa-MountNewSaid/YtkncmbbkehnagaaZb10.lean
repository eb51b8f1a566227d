import Derived.Test.YtkncmbbkehnagaaZb9
import Derived.Test.YtkncmbbkehnagaaZb7
import Derived.Lib.SlBytesConst
import Derived.Test.YtkncmbbkehnagaaZb6
set_option linter.unusedVariables false
set_option linter.unusedSimpArgs false
/-! Plainly: a chip on which pages were laid, and a scan of it. -/
namespace Go.Proofs.Ytkncmbbkehnagaa.Cm
open Go.RowKit Go.Proofs.YtkncmbbkehnagaaW.PrintWords Go.Proofs.YtkncmbbkehnagaaW.PrintLast Go.Proofs.YtkncmbbkehnagaaW.PrintMore Go.Proofs.Ytkncmbbkehnagaa.Kp Go.Proofs.Ytkncmbbkehnagaa.Cp Go.Proofs.Ytkncmbbkehnagaa.PAll Go.Proofs.Ytkncmbbkehnagaa.Iter Go.Proofs.Ytkncmbbkehnagaa.St Go.Proofs.Ytkncmbbkehnagaa.Sp Go.Proofs.Ytkncmbbkehnagaa.Pl2

def shB (p : Nat) (B : List (List Int)) : Blk := ⟨false, B.length, 0, B ++ List.replicate (p - B.length) []⟩
def mkC (p : Nat) (L : List (List (List Int))) (br bp kp : Int) : Chp := ⟨L.map (shB p), p, br, bp, 0, -1, -1, -1, kp, false⟩
theorem new_mkC (n p : Nat) : newS n p [] = mkC p (List.replicate n []) 0 0 0 := by
  unfold newS mkC
  congr 1
  refine List.ext_getElem? (fun i => ?_)
  by_cases h : i < n
  · simp [h, shB, List.getElem?_replicate]
  · simp [h, List.getElem?_replicate]
theorem mkC_get (p : Nat) (L : List (List (List Int))) (br bp kp : Int) (i : Nat) : (mkC p L br bp kp).blocks[i]? = L[i]?.map (shB p) := by simp [mkC]
theorem mkC_spot {p : Nat} {L : List (List (List Int))} {br bp kp : Int} {i j : Nat} (hi : i < L.length) (hj : j < p) : spotB (mkC p L br bp kp) i j = true := by
  simp [spotB, hasB, mkC]; omega
theorem shB_put (p : Nat) (B : List (List Int)) (x : List Int) (h : B.length < p) (hp : p ≤ 32) : pageB B.length x (nextB (shB p B)) = shB p (B ++ [x]) := by
  obtain ⟨d, hd⟩ : ∃ d, p - B.length = d + 1 := ⟨p - B.length - 1, by omega⟩
  have e : p - (B ++ [x]).length = d := by rw [List.length_append, List.length_singleton]; omega
  unfold pageB nextB shB
  rw [hd, e]
  simp only [List.replicate_succ, List.set_append_right _ _ (Nat.le_refl _), Nat.sub_self, List.set_cons_zero, List.length_append, List.length_singleton, List.append_assoc, List.singleton_append]
  congr 1
  unfold wrap64
  omega
theorem set_get {L : List (List (List Int))} {i : Nat} (B : List (List Int)) (k : Nat) (hi : i < L.length) : (L.set i B)[k]? = if i = k then some B else L[k]? := by
  by_cases e : i = k
  · subst e
    simp [hi]
  · simp [e, List.getElem?_set]
theorem dec1 : dec (-1) = -1 := by unfold dec mx wrap64; omega
theorem getD_at {α : Type} {l : List α} {i : Nat} (z : α) (h : i < l.length) : l.getD i z = l[i] := by
  rw [List.getD_eq_getElem?_getD, List.getElem?_eq_getElem h]
  rfl
theorem mod_mk {p : Nat} {L : List (List (List Int))} {i : Nat} {B : List (List Int)} (x : List Int) (hB : L[i]? = some B) (h : B.length < p) (hp : p ≤ 32) : ((L.map (shB p)).modify i nextB).modify i (pageB B.length x) = (L.set i (B ++ [x])).map (shB p) := by
  have hi := (List.getElem?_eq_some_iff.1 hB).1
  refine List.ext_getElem? (fun k => ?_)
  rw [List.getElem?_map, set_get _ _ hi]
  simp only [List.getElem?_modify, List.getElem?_map]
  by_cases e : i = k
  · subst e
    simp only [hB, if_true, Option.map_some, Option.map_eq_map, Option.some.injEq]
    exact shB_put p B x h hp
  · simp only [if_neg e, Option.map_eq_map, Option.map_map]
    cases L[k]? <;> rfl
/-- A page is programmed. -/
theorem prog_mk {p : Nat} {L : List (List (List Int))} (br bp kp : Int) {i : Nat} {B : List (List Int)} (x : List Int) (hB : L[i]? = some B) (h : B.length < p) (hp : p ≤ 32) (h1 : 1 ≤ x.length) (h2 : x.length ≤ 2000) :
    progS (mkC p L br bp kp) i B.length x = (mkC p (L.set i (B ++ [x])) br (wrap64 (bp + 1)) kp, 0) := by
  have hi := (List.getElem?_eq_some_iff.1 hB).1
  unfold progS
  rw [if_pos ⟨mkC_spot hi h, h1, h2⟩, if_neg (by simp [mkC])]
  have e : (mkC p L br bp kp).blocks[((i : Nat) : Int).toNat]? = some (shB p B) := by rw [Int.toNat_natCast, mkC_get, hB]; rfl
  rw [e]
  simp only
  rw [if_neg (by simp [shB]), if_neg (by simp [shB]), if_neg (by simp [mkC]), if_neg (by simp [mkC])]
  simp only [Int.toNat_natCast, bump, Chp.mod, mkC]
  rw [mod_mk x hB h hp, dec1]
/-! ### what is found -/
def shOf (x : List Int) : List S28 := if (parseL x).2.2.2 = 0 then [⟨(parseL x).1, (parseL x).2.1, (parseL x).2.2.1⟩] else []
theorem parse_nil : parseL [] = (0, 0, [], 5) := by
  rcases parse_inv (b := []) (fun _ h => by cases h) with h | ⟨p, q, d, _, _, h⟩
  · exact h
  · exfalso
    have := congrArg List.length h
    unfold laidL at this
    simp at this
theorem shOf_nil : shOf [] = [] := by
  unfold shOf
  rw [parse_nil]
  rfl
theorem shOf_laid {x : S28} (h : mayB x.f0 x.f1 x.f2 = true) : shOf (laidL x.f0 x.f1 x.f2) = [x] := by
  unfold shOf
  rw [parse_laid h]
  rfl
def pgAt (L : List (List (List Int))) (i j : Nat) : List Int := ((L.getD i []).getD j [])
theorem mkC_blockB {p : Nat} {L : List (List (List Int))} {br bp kp : Int} {i : Nat} (hi : i < L.length) : blockB (mkC p L br bp kp) i = shB p (L.getD i []) := by
  unfold blockB
  rw [if_pos (by simp [hasB, mkC]; exact hi), Int.toNat_natCast, mkC_get, List.getElem?_eq_getElem hi, List.getD_eq_getElem?_getD, List.getElem?_eq_getElem hi]
  rfl
theorem mkC_readX {p : Nat} {L : List (List (List Int))} {br bp kp : Int} {i j : Nat} (hi : i < L.length) (hj : j < p) : readX (mkC p L br bp kp) i j = pgAt L i j := by
  unfold readX
  rw [if_pos ⟨mkC_spot hi hj, rfl⟩]
  unfold pageOf pgAt
  rw [Int.toNat_natCast, Int.toNat_natCast, mkC_get, List.getElem?_eq_getElem hi, getD_at [] hi]
  simp only [Option.map_some, Option.getD_some, shB]
  rw [List.getD_eq_getElem?_getD]
  by_cases h : j < (L[i]).length
  · rw [List.getElem?_append_left h]
  · rw [List.getElem?_append_right (by omega), List.getElem?_replicate, List.getElem?_eq_none (by omega)]
    split <;> rfl
theorem mkC_rdNew {p : Nat} {L : List (List (List Int))} {br bp kp : Int} {i j : Nat} (hi : i < L.length) (hj : j < p) : rdNew (mkC p L br bp kp) i j = shOf (pgAt L i j) := by
  unfold rdNew
  rw [mkC_blockB hi, mkC_readX hi hj]
  split
  · rename_i h
    have h0 : (L.getD i []) = [] := List.eq_nil_of_length_eq_zero (by simp only [shB] at h; omega)
    unfold pgAt
    rw [h0]
    exact shOf_nil.symm
  · rfl
/-- Block by block, page by page. -/
theorem grid {α : Type} (p : Nat) (hp : 0 < p) (f : Nat → Nat → List α) : ∀ n, (List.range (n * p)).flatMap (fun k => f (k / p) (k % p)) = (List.range n).flatMap (fun i => (List.range p).flatMap (f i)) := by
  intro n
  induction n with
  | zero => simp
  | succ n ih =>
    rw [Nat.succ_mul, List.range_add, List.flatMap_append, ih, List.range_succ, List.flatMap_append]
    congr 1
    simp only [List.flatMap_map, List.flatMap_cons, List.flatMap_nil, List.append_nil]
    have : ∀ m, m ≤ p → (List.range m).flatMap (fun a => f ((n * p + a) / p) ((n * p + a) % p)) = (List.range m).flatMap (f n) := by
      intro m
      induction m with
      | zero => intro _; rfl
      | succ m ih2 =>
        intro hm
        rw [List.range_succ, List.flatMap_append, List.flatMap_append, ih2 (by omega)]
        simp only [List.flatMap_cons, List.flatMap_nil, List.append_nil]
        have e1 : (n * p + m) / p = n := by rw [Nat.mul_comm, Nat.mul_add_div hp, Nat.div_eq_of_lt (by omega)]; omega
        have e2 : (n * p + m) % p = m := by rw [Nat.mul_comm, Nat.mul_add_mod, Nat.mod_eq_of_lt (by omega)]
        rw [e1, e2]
    exact this p (Nat.le_refl _)
theorem spots2_eq {n p : Nat} (h1 : 1 ≤ n) (h2 : n ≤ 64) (h3 : 1 ≤ p) (h4 : p ≤ 32) : spots2 n p = (List.range (n * p)).map (fun k => (((k / p : Nat) : Int), ((k % p : Nat) : Int))) := by
  unfold spots2 spotsList
  rw [if_neg (by omega), show ((n : Int) * (p : Int)).toNat = n * p by rw [← Int.natCast_mul, Int.toNat_natCast]]
  unfold spotsTo
  rw [List.map_map]
  refine List.map_congr_left (fun k _ => ?_)
  simp
theorem spots2_mem {n p : Nat} (h1 : 1 ≤ n) (h2 : n ≤ 64) (h3 : 1 ≤ p) (h4 : p ≤ 32) {x : Sp2} (hx : x ∈ spots2 n p) : ∃ i j : Nat, i < n ∧ j < p ∧ x = ((i : Int), (j : Int)) := by
  rw [spots2_eq h1 h2 h3 h4] at hx
  obtain ⟨k, hk, rfl⟩ := List.mem_map.1 hx
  have hk := List.mem_range.1 hk
  exact ⟨k / p, k % p, (Nat.div_lt_iff_lt_mul (by omega)).2 hk, Nat.mod_lt _ (by omega), rfl⟩
theorem flat_cong {α β : Type} (l : List α) (f g : α → List β) (h : ∀ x ∈ l, f x = g x) : l.flatMap f = l.flatMap g := by
  induction l with
  | nil => rfl
  | cons a l ih => simp only [List.flatMap_cons]; rw [h a (by simp), ih (fun x hx => h x (by simp [hx]))]
theorem scan_grid {α : Type} {n p : Nat} (h1 : 1 ≤ n) (h2 : n ≤ 64) (h3 : 1 ≤ p) (h4 : p ≤ 32) (f : Sp2 → List α) : (spots2 n p).flatMap f = (List.range n).flatMap (fun i : Nat => (List.range p).flatMap (fun j : Nat => f ((i : Int), (j : Int)))) := by
  rw [spots2_eq h1 h2 h3 h4, List.flatMap_map]
  exact grid p (by omega) (fun i j : Nat => f ((i : Int), (j : Int))) n
/-- The pages of a block. -/
def blkN (p : Nat) (B : List (List Int)) : List S28 := (List.range p).flatMap (fun j => shOf (B.getD j []))
def blkF (p : Nat) (i : Nat) (B : List (List Int)) : List FD := (List.range p).flatMap (fun j : Nat => (shOf (B.getD j [])).map (asF (i : Int) (j : Int)))
theorem scanN_mk {p : Nat} {L : List (List (List Int))} {br bp kp : Int} (h1 : 1 ≤ L.length) (h2 : L.length ≤ 64) (h3 : 1 ≤ p) (h4 : p ≤ 32) : scanN (mkC p L br bp kp) (spots2 L.length p) = L.flatMap (blkN p) := by
  unfold scanN
  rw [scan_grid h1 h2 h3 h4]
  have e : (List.range L.length).flatMap (fun i : Nat => (List.range p).flatMap fun j : Nat => rdNew (mkC p L br bp kp) (i : Int) (j : Int)) = (List.range L.length).flatMap (fun i => blkN p (L.getD i [])) := by
    refine flat_cong _ _ _ (fun i hi => flat_cong _ _ _ (fun j hj => ?_))
    rw [mkC_rdNew (List.mem_range.1 hi) (List.mem_range.1 hj)]
    rfl
  refine e.trans ?_
  have : ∀ m, m ≤ L.length → (List.range m).flatMap (fun i => blkN p (L.getD i [])) = (L.take m).flatMap (blkN p) := by
    intro m
    induction m with
    | zero => intro _; rfl
    | succ m ih =>
      intro hm
      rw [List.range_succ, List.flatMap_append, ih (by omega), take_snoc2 L m L[m] (List.getElem?_eq_getElem (by omega)), List.flatMap_append]
      simp only [List.flatMap_cons, List.flatMap_nil, List.append_nil]
      rw [List.getD_eq_getElem?_getD, List.getElem?_eq_getElem (by omega)]
      rfl
  rw [this _ (Nat.le_refl _), List.take_length]
theorem scanF_mk {p : Nat} {L : List (List (List Int))} {br bp kp : Int} (h1 : 1 ≤ L.length) (h2 : L.length ≤ 64) (h3 : 1 ≤ p) (h4 : p ≤ 32) : scanF (mkC p L br bp kp) (spots2 L.length p) = (List.range L.length).flatMap (fun i => blkF p i (L.getD i [])) := by
  unfold scanF
  rw [scan_grid h1 h2 h3 h4]
  refine flat_cong _ _ _ (fun i hi => flat_cong _ _ _ (fun j hj => ?_))
  simp only
  rw [mkC_rdNew (List.mem_range.1 hi) (List.mem_range.1 hj)]
  rfl
theorem blkF_nil (p i : Nat) : blkF p i [] = [] := by
  unfold blkF
  have : ∀ l : List Nat, l.flatMap (fun j : Nat => (shOf (([] : List (List Int)).getD j [])).map (asF (i : Int) (j : Int))) = [] := by
    intro l
    induction l with
    | nil => rfl
    | cons a l ih => rw [List.flatMap_cons, ih]; simp [shOf_nil]
  exact this _
theorem blkN_nil (p : Nat) : blkN p [] = [] := by
  unfold blkN
  have : ∀ l : List Nat, l.flatMap (fun j => shOf (([] : List (List Int)).getD j [])) = [] := by
    intro l
    induction l with
    | nil => rfl
    | cons a l ih => rw [List.flatMap_cons, ih]; simp [shOf_nil]
  exact this _
/-- Sheets, laid in a row. -/
def lay (l : List S28) : List (List Int) := l.map (fun x => laidL x.f0 x.f1 x.f2)
def fds (i : Nat) (l : List S28) : List FD := (List.range l.length).map (fun j : Nat => asF (i : Int) (j : Int) (l.getD j z28))
theorem range_split {α : Type} (m p : Nat) (h : m ≤ p) (f : Nat → List α) (hf : ∀ j, m ≤ j → f j = []) : (List.range p).flatMap f = (List.range m).flatMap f := by
  obtain ⟨d, rfl⟩ := Nat.exists_eq_add_of_le h
  induction d with
  | zero => rfl
  | succ d ih => rw [show m + (d + 1) = m + d + 1 from rfl, List.range_succ, List.flatMap_append, ih (by omega)]; simp [hf]
theorem lay_get (l : List S28) (j : Nat) (h : j < l.length) : (lay l).getD j [] = laidL (l.getD j z28).f0 (l.getD j z28).f1 (l.getD j z28).f2 := by
  simp [lay, List.getD_eq_getElem?_getD, List.getElem?_eq_getElem h]
theorem lay_none (l : List S28) (j : Nat) (h : l.length ≤ j) : (lay l).getD j [] = [] := by
  simp [lay, List.getD_eq_getElem?_getD, List.getElem?_eq_none h]
theorem getD_mem28 {l : List S28} {j : Nat} (h : j < l.length) : l.getD j z28 ∈ l := by
  rw [List.getD_eq_getElem?_getD, List.getElem?_eq_getElem h]
  exact List.getElem_mem h
theorem blkF_lay {p i : Nat} {l : List S28} (hl : l.length ≤ p) (hm : ∀ x ∈ l, mayB x.f0 x.f1 x.f2 = true) : blkF p i (lay l) = fds i l := by
  unfold blkF
  rw [range_split l.length p hl _ (fun j hj => by rw [lay_none l j hj, shOf_nil]; rfl)]
  unfold fds
  rw [List.map_eq_flatMap]
  refine flat_cong _ _ _ (fun j hj => ?_)
  have hj := List.mem_range.1 hj
  rw [lay_get l j hj, shOf_laid (hm _ (getD_mem28 hj))]
  rfl
theorem range_getD {α : Type} (z : α) (l : List α) : (List.range l.length).map (fun j => l.getD j z) = l := by
  refine List.ext_getElem (by simp) (fun i h1 h2 => ?_)
  simp only [List.getElem_map, List.getElem_range, List.getD_eq_getElem?_getD]
  rw [List.getElem?_eq_getElem h2]
  rfl
theorem blkN_lay {p : Nat} {l : List S28} (hl : l.length ≤ p) (hm : ∀ x ∈ l, mayB x.f0 x.f1 x.f2 = true) : blkN p (lay l) = l := by
  unfold blkN
  rw [range_split l.length p hl _ (fun j hj => by rw [lay_none l j hj, shOf_nil])]
  rw [flat_cong _ _ (fun j => [l.getD j z28]) (fun j hj => by
    have hj := List.mem_range.1 hj
    rw [lay_get l j hj, shOf_laid (hm _ (getD_mem28 hj))])]
  rw [← List.map_eq_flatMap, range_getD]
/-- Ready to be scanned. -/
def OkL (p : Nat) (L : List (List (List Int))) : Prop := ∀ B ∈ L, B.length ≤ p ∧ ∀ x ∈ B, Bytes x ∧ x.length ≤ 2000
theorem pgAt_ok {p : Nat} {L : List (List (List Int))} (h : OkL p L) (i j : Nat) : Bytes (pgAt L i j) ∧ (pgAt L i j).length ≤ 2000 := by
  unfold pgAt
  have hn : Bytes ([] : List Int) ∧ ([] : List Int).length ≤ 2000 := ⟨fun _ h => (by cases h), by decide⟩
  by_cases hi : i < L.length
  · rw [getD_at [] hi]
    by_cases hj : j < (L[i]).length
    · rw [getD_at [] hj]
      exact (h _ (List.getElem_mem hi)).2 _ (List.getElem_mem hj)
    · rw [List.getD_eq_getElem?_getD, List.getElem?_eq_none (by omega)]
      exact hn
  · have e : L.getD i [] = [] := by rw [List.getD_eq_getElem?_getD, List.getElem?_eq_none (by omega)]; rfl
    rw [e]
    exact hn
theorem rdy_mk {p : Nat} {L : List (List (List Int))} {br bp kp : Int} (h : OkL p L) (h1 : 1 ≤ L.length) (h2 : L.length ≤ 64) (h3 : 1 ≤ p) (h4 : p ≤ 32) {sp : List Sp2} (hs : ∀ x ∈ sp, x ∈ spots2 L.length p) : Rdy (mkC p L br bp kp) sp where
  down := rfl
  spot := fun x hx => by
    obtain ⟨i, j, hi, hj, rfl⟩ := spots2_mem h1 h2 h3 h4 (hs x hx)
    exact mkC_spot hi hj
  pages := fun x hx => by
    obtain ⟨i, j, hi, hj, rfl⟩ := spots2_mem h1 h2 h3 h4 (hs x hx)
    obtain ⟨a1, a2⟩ := pgAt_ok h i j
    rw [mkC_readX hi hj, mkC_blockB hi]
    refine ⟨fun xs hxs => ?_, ⟨a1, by omega⟩, by omega⟩
    have hx2 : xs ∈ L.getD i [] ++ List.replicate (p - (L.getD i []).length) [] := hxs
    rcases List.mem_append.1 hx2 with hx2 | hx2
    · rw [List.getD_eq_getElem?_getD, List.getElem?_eq_getElem hi] at hx2
      have := ((h _ (List.getElem_mem hi)).2 xs hx2).2
      omega
    · rw [List.eq_of_mem_replicate hx2]
      exact Nat.zero_le _
theorem pages_mk {p : Nat} {L : List (List (List Int))} {br bp kp : Int} (h : OkL p L) : ∀ B ∈ (mkC p L br bp kp).blocks, ∀ xs ∈ B.pages, xs.length ≤ 100000 := fun B hB xs hxs => by
  obtain ⟨C, hC, rfl⟩ := List.mem_map.1 hB
  have hx2 : xs ∈ C ++ List.replicate (p - C.length) [] := hxs
  rcases List.mem_append.1 hx2 with hx2 | hx2
  · have := ((h _ hC).2 xs hx2).2
    omega
  · rw [List.eq_of_mem_replicate hx2]
    exact Nat.zero_le _
theorem spots2_len {n p : Nat} (h1 : 1 ≤ n) (h2 : n ≤ 64) (h3 : 1 ≤ p) (h4 : p ≤ 32) : (spots2 n p).length = n * p := by
  rw [spots2_eq h1 h2 h3 h4]
  simp
end Go.Proofs.Ytkncmbbkehnagaa.Cm

set_option linter.unusedVariables false
set_option linter.unusedSimpArgs false
/-! A scan of a chip of sheets, step by step; the layer's awake. -/
namespace Go.Proofs.Ytkncmbbkehnagaa.Cm
open Go.RowKit Go.Proofs.YtkncmbbkehnagaaW.PrintWords Go.Proofs.YtkncmbbkehnagaaW.PrintLast Go.Proofs.YtkncmbbkehnagaaW.PrintMore Go.Proofs.Ytkncmbbkehnagaa.Kp Go.Proofs.Ytkncmbbkehnagaa.Cp Go.Proofs.Ytkncmbbkehnagaa.PAll Go.Proofs.Ytkncmbbkehnagaa.Iter Go.Proofs.Ytkncmbbkehnagaa.St Go.Proofs.Ytkncmbbkehnagaa.Sp Go.Proofs.Ytkncmbbkehnagaa.Pl1 Go.Proofs.Ytkncmbbkehnagaa.Pl2
attribute [local go_sem] max2_int min2_int max_two min_two max_three min_three max_four min_four

theorem Sc.open0 {w0 W : World} {b0 : Nat} {S : Nat → Prop} {g q : Nat} {s : Chp} {sp : List Sp2} {fs : List FD} {shs : List S28} (h : Sc w0 W b0 S g q s sp fs shs) : ∃ A c F cf vh, W.heap[q]? = some (.cells (scCells g (.slice A sp.length c) (.slice F fs.length cf) vh) 87 (0, 0)) ∧ Kd.C kFD W F fs.length fs := by
  obtain ⟨b1, A, c, vf, vh, h⟩ := h
  obtain ⟨F, cf, rfl, -, hC⟩ := Kd.R_reads h.f
  exact ⟨A, c, F, cf, vh, h.box, hC⟩
theorem sc_seq {w0 W : World} {b0 : Nat} {S : Nat → Prop} {g q : Nat} {s : Chp} {fs : List FD} {shs : List S28} (h : Sc w0 W b0 S g q s [] fs shs) (hl : fs.length ≤ 100000) : Calls Try.prog 18 #[.pointer (some ⟨q, 0, none⟩)] W fun e w' => e = .returned (.int .i64 (mostQ fs)) ∧ Below W.heap.size W w' := by
  obtain ⟨A, c, F, cf, vh, h1, h2⟩ := h.open0
  exact (mseq h1 h2 hl).mono (fun e w' h => h)
theorem sc_found {w0 W : World} {b0 : Nat} {S : Nat → Prop} {g q : Nat} {s : Chp} {fs : List FD} {shs : List S28} (h : Sc w0 W b0 S g q s [] fs shs) (hl : fs.length ≤ 100000) : Calls Try.prog 19 #[.pointer (some ⟨q, 0, none⟩)] W fun e w' => ∃ v, e = .returned v ∧ Kd.R kFD 49 w' W.heap.size (fun _ => True) v fs ∧ Below W.heap.size W w' := by
  obtain ⟨A, c, F, cf, vh, h1, h2⟩ := h.open0
  exact (mfound h1 h2 hl).mono (fun e w' h => h)
theorem sc_pick {w0 W : World} {b0 : Nat} {S : Nat → Prop} {g q cl : Nat} {Al : Option Addr} {live : List Rf} {s : Chp} {fs : List FD} {shs : List S28} (h : Sc w0 W b0 S g q s [] fs shs) (hL : Kd.C k2 W Al live.length live) (hcl : live.length ≤ cl) (hl : fs.length ≤ 100000) (hl2 : live.length ≤ 1000) (hwf : ∀ x ∈ fs, FDwf x) (hap : SpApart fs) :
    Calls Try.prog 16 #[.pointer (some ⟨q, 0, none⟩), .slice Al live.length cl] W fun e w' => ∃ v, e = .returned (.tuple #[v, .int .i64 (pickL live fs).2]) ∧ kFD.R 49 w' W.heap.size (fun _ => True) v (pickL live fs).1 ∧ Below W.heap.size W w' := by
  obtain ⟨A, c, F, cf, vh, h1, h2⟩ := h.open0
  exact mpick h1 h2 hL hcl hl hl2 hwf hap
/-- After k pages of a chip of sheets. -/
def Sg (w0 W : World) (b0 : Nat) (S : Nat → Prop) (g q : Nat) (s : Chp) (all : List Sp2) (k : Nat) : Prop := Sc w0 W b0 S g q (scanS s (all.take k)) (all.drop k) (scanF s (all.take k)) (scanN s (all.take k))
theorem Sg.step {w0 W W1 : World} {b0 : Nat} {S : Nat → Prop} {g q : Nat} {s : Chp} {all : List Sp2} {k : Nat} (h : Sg w0 W b0 S g q s all k) (hb : Below W.heap.size W W1) : Sg w0 W1 b0 S g q s all k := Sc.step h hb
theorem scan_move (s : Chp) (a b : List Sp2) : scanS (scanS s a) b = scanS s (a ++ b) ∧ scanF s a ++ scanF (scanS s a) b = scanF s (a ++ b) ∧ scanN s a ++ scanN (scanS s a) b = scanN s (a ++ b) := by
  obtain ⟨r, hr⟩ := scanS_same a s
  have e1 : scanF (scanS s a) b = scanF s b := by rw [hr]; rfl
  have e2 : scanN (scanS s a) b = scanN s b := by rw [hr]; rfl
  refine ⟨?_, ?_, ?_⟩
  · unfold scanS; rw [List.foldl_append]
  · rw [e1]; unfold scanF; rw [List.flatMap_append]
  · rw [e2]; unfold scanN; rw [List.flatMap_append]
theorem mkC_br (p : Nat) (L : List (List (List Int))) (br bp kp r : Int) : { mkC p L br bp kp with br := r } = mkC p L r bp kp := rfl
theorem sd_step {w0 w : World} {b0 : Nat} {S : Nat → Prop} {g q p : Nat} {L : List (List (List Int))} {br bp kp : Int} {k : Nat} (h : Sg w0 w b0 S g q (mkC p L br bp kp) (spots2 L.length p) k) (hL : OkL p L) (h1 : 1 ≤ L.length) (h2 : L.length ≤ 64) (h3 : 1 ≤ p) (h4 : p ≤ 32) (n : Int) (hn : 1 ≤ n) (hk : k ≤ L.length * p) (k' : Nat) (hk' : (k' : Int) = if ((L.length * p : Nat) : Int) < k + n then ((L.length * p : Nat) : Int) else k + n) :
    Calls Try.prog 15 #[.pointer (some ⟨q, 0, none⟩), .int .i64 n] w fun e w' => e = .returned (.tuple #[.bool (decide (L.length * p ≤ k')), .int .i64 0]) ∧ Sg w0 w' b0 S g q (mkC p L br bp kp) (spots2 L.length p) k' := by
  have hlen := spots2_len h1 h2 h3 h4
  have hbig : L.length * p ≤ 64 * 32 := Nat.mul_le_mul h2 h4
  obtain ⟨all, hall⟩ : ∃ all, spots2 L.length p = all := ⟨_, rfl⟩
  obtain ⟨N, hN⟩ : ∃ N, L.length * p = N := ⟨_, rfl⟩
  rw [hN] at hlen hbig hk hk' ⊢
  have hkk : k ≤ k' ∧ k' ≤ N := by split at hk' <;> omega
  obtain ⟨r, hr⟩ := scanS_same (all.take k) (mkC p L br bp kp)
  rw [mkC_br] at hr
  have hrd : Rdy (scanS (mkC p L br bp kp) (all.take k)) (all.drop k) := by
    rw [hr]
    exact rdy_mk hL h1 h2 h3 h4 (fun x hx => by rw [hall]; exact List.mem_of_mem_drop hx)
  rw [hall] at h hlen ⊢
  have f1 := scanF_le (mkC p L br bp kp) (all.take k)
  have f2 := scanN_le (mkC p L br bp kp) (all.take k)
  have f3 : (all.take k).length ≤ N := by rw [List.length_take]; omega
  have f4 : (all.drop k).length = N - k := by rw [List.length_drop, hlen]
  refine (mstep h n hn hrd (by omega) (by omega) (k' - k) (by rw [f4]; split at hk' <;> split <;> omega)).mono ?_
  rintro e w' ⟨rfl, hsc⟩
  obtain ⟨m1, m2, m3⟩ := scan_move (mkC p L br bp kp) (all.take k) ((all.drop k).take (k' - k))
  have et : all.take k ++ (all.drop k).take (k' - k) = all.take k' := by
    rw [← List.take_add]
    congr 1
    omega
  rw [et] at m1 m2 m3
  rw [m1, m2, m3, List.drop_drop, show k + (k' - k) = k' by omega] at hsc
  refine ⟨?_, hsc⟩
  have : decide ((all.drop k).length ≤ k' - k) = decide (N ≤ k') := by
    rw [decide_eq_decide, f4]
    omega
  rw [this]
/-- All was read. -/
theorem Sg.over {w0 w : World} {b0 : Nat} {S : Nat → Prop} {g q p : Nat} {L : List (List (List Int))} {br bp kp : Int} {k : Nat} (h : Sg w0 w b0 S g q (mkC p L br bp kp) (spots2 L.length p) k) (h1 : 1 ≤ L.length) (h2 : L.length ≤ 64) (h3 : 1 ≤ p) (h4 : p ≤ 32) (hk : L.length * p ≤ k) :
    Sc w0 w b0 S g q (scanS (mkC p L br bp kp) (spots2 L.length p)) [] ((List.range L.length).flatMap (fun i => blkF p i (L.getD i []))) (L.flatMap (blkN p)) := by
  have hlen := spots2_len h1 h2 h3 h4
  unfold Sg at h
  rw [List.take_of_length_le (by omega), List.drop_of_length_le (by omega), scanF_mk h1 h2 h3 h4, scanN_mk h1 h2 h3 h4] at h
  exact h
/-- New, of a chip of sheets. -/
theorem sd_new {w0 w : World} {b0 : Nat} {S : Nat → Prop} {g p : Nat} {L : List (List (List Int))} {br bp kp : Int} (hb : Below b0 w0 w) (h : Hd w b0 S g (mkC p L br bp kp)) (hL : OkL p L) (h1 : 1 ≤ L.length) :
    Calls Try.prog 14 #[.pointer (some ⟨g, 0, none⟩)] w fun e w' => ∃ q, e = .returned (.pointer (some ⟨q, 0, none⟩)) ∧ w.heap.size ≤ q ∧ Below w.heap.size w w' ∧ Sg w0 w' b0 S g q (mkC p L br bp kp) (spots2 L.length p) 0 := by
  refine (mnew hb h (by simp [mkC]; omega) (pages_mk hL)).mono ?_
  rintro e w' ⟨q, rfl, h1, h2, h3⟩
  have hbl : (mkC p L br bp kp).blocks.length = L.length := by simp [mkC]
  rw [hbl] at h3
  exact ⟨q, rfl, h1, h2, h3⟩
/-! ### awake -/
def rB : List Int := [0, 4, 1, 114, 90]
def xr : S28 := ⟨0, 4, [114]⟩
def awL : List (List (List Int)) := [[], lay [xr], []]
theorem code_small (n : Nat) (h : n < 128) : code n = [(n : Int)] := by
  unfold code
  rw [show n / 128 = 0 by omega, front_zero, List.nil_append, show n % 128 = n by omega]
theorem laid_r : laidL 0 4 [114] = rB := by
  unfold laidL
  rw [show clamp 0 = 0 from clamp_of 0 (by omega), show clamp 4 = 4 from clamp_of 4 (by omega), code_small 0 (by omega), code_small 4 (by omega), show ([114] : List Int).length = 1 from rfl, code_small 1 (by omega)]
  rfl
theorem may_r : mayB 0 4 [114] = true := mayB_iff.2 ⟨by decide, by decide, by decide, by decide, by decide, by rw [laid_r]; decide⟩
theorem lay_r : lay [xr] = [rB] := by
  show [laidL 0 4 [114]] = _
  rw [laid_r]
theorem aw_prog : progS (newS 3 2 []) 1 0 rB = (mkC 2 awL 0 1 0, 0) := by
  rw [new_mkC]
  have := prog_mk (p := 2) (L := List.replicate 3 []) 0 0 0 (i := 1) (B := []) rB rfl (by decide) (by decide) (by decide) (by decide)
  refine this.trans ?_
  unfold awL
  rw [lay_r, show wrap64 (0 + 1) = 1 by unfold wrap64; omega]
  rfl
theorem aw_ok : OkL 2 awL := by
  intro B hB
  unfold awL at hB
  rw [lay_r] at hB
  rcases List.mem_cons.1 hB with rfl | hB
  · exact ⟨by decide, fun x hx => by cases hx⟩
  · rcases List.mem_cons.1 hB with rfl | hB
    · refine ⟨by decide, fun x hx => ?_⟩
      obtain rfl := List.mem_singleton.1 hx
      exact ⟨fun y hy => by simp [rB] at hy; omega, by decide⟩
    · obtain rfl := List.mem_singleton.1 hB
      exact ⟨by decide, fun x hx => by cases hx⟩
theorem aw_bytes : ∃ k, potsherdref3_SheetBytes.f k 0 4 [114] = some (rB, 0) := by
  obtain ⟨k, hk⟩ := (refBytes_ev 0 4 [114]).rounds
  refine ⟨k, hk.trans ?_⟩
  unfold bytesL
  rw [if_pos may_r, laid_r]
theorem may_xr : ∀ x ∈ [xr], mayB x.f0 x.f1 x.f2 = true := fun x hx => by
  obtain rfl := List.mem_singleton.1 hx
  exact may_r
def awF : List FD := [⟨0, 4, 1, 0⟩]
theorem aw_F : (List.range awL.length).flatMap (fun i => blkF 2 i (awL.getD i [])) = awF := by
  show blkF 2 0 [] ++ (blkF 2 1 (lay [xr]) ++ (blkF 2 2 [] ++ [])) = _
  rw [blkF_nil, blkF_nil, blkF_lay (by decide) may_xr]
  rfl
theorem aw_N : awL.flatMap (blkN 2) = [xr] := by
  show blkN 2 [] ++ (blkN 2 (lay [xr]) ++ (blkN 2 [] ++ [])) = _
  rw [blkN_nil, blkN_lay (by decide) may_xr]
  rfl
theorem C_none8 (w : World) : Kd.C (Kd.int .i64) w none 0 [] := ⟨rfl, by omega, fun h => by omega⟩
theorem C_none2 (w : World) : Kd.C k2 w none 0 [] := ⟨rfl, by omega, fun h => by omega⟩
/-- A row of Refs that was built. -/
theorem k2_lit {W : World} {b : Nat} {l : List Rf} (hl : l.length ≤ 1000) (h : ∀ j r, l[j]? = some r → W.cell? ⟨b, j * 2, none⟩ = some (.int .i64 r.1) ∧ W.cell? ⟨b, j * 2 + 1, none⟩ = some (.int .i64 r.2)) : Kd.C k2 W (some ⟨b, 0, none⟩) l.length l := by
  refine ⟨rfl, by omega, fun _ => ⟨_, rfl, fun j p hp => ?_⟩⟩
  obtain ⟨h1, h2⟩ := h j p hp
  refine ⟨[.int .i64 p.1, .int .i64 p.2], rfl, ⟨_, _, rfl, rfl, rfl⟩, fun i u hu => ?_⟩
  match i, hu with
  | 0, hu =>
    obtain rfl : _ = u := by simpa using hu
    rw [add_at]
    simpa [k2, Kd.pair, Kd.int, Kd.scalar] using h1
  | 1, hu =>
    obtain rfl : _ = u := by simpa using hu
    rw [add_at]
    simpa [k2, Kd.pair, Kd.int, Kd.scalar] using h2
  | i + 2, hu => simp at hu
theorem str_r : strOfNums [114] = { data := #[114] } := by decide +kernel
end Go.Proofs.Ytkncmbbkehnagaa.Cm

set_option linter.unusedVariables false
set_option linter.unusedSimpArgs false
/-! The layer's awake. -/
namespace Go.Proofs.Ytkncmbbkehnagaa.Cm
open Go.RowKit Go.Proofs.YtkncmbbkehnagaaW.PrintWords Go.Proofs.YtkncmbbkehnagaaW.PrintLast Go.Proofs.YtkncmbbkehnagaaW.PrintMore Go.Proofs.Ytkncmbbkehnagaa.Kp Go.Proofs.Ytkncmbbkehnagaa.Cp Go.Proofs.Ytkncmbbkehnagaa.PAll Go.Proofs.Ytkncmbbkehnagaa.Iter Go.Proofs.Ytkncmbbkehnagaa.St Go.Proofs.Ytkncmbbkehnagaa.Sp
attribute [local go_sem] max2_int min2_int max_two min_two max_three min_three max_four min_four

theorem lits_C (w : World) (xs : List Int) (hl : xs.length ≤ 1000000) (fr : Nat × Nat) : Kd.C (Kd.int .u8) (w.alloc (.cells (xs.map (Value.int .u8)).toArray 5 fr)) (some ⟨w.heap.size, 0, none⟩) xs.length xs :=
  C_lit (blk_new w _) (by simp) hl
/-- A row of one's own lies in new blocks. -/
theorem R_at {α : Type} {d : Kd α} {e base : Nat} {W : World} {ok : Nat → Prop} {A : Option Addr} {n c : Nat} {xs : List α} (h : d.R e W base ok (.slice A n c) xs) : ∀ ad, A = some ad → base ≤ ad.block ∧ ad.block < W.heap.size := by
  obtain ⟨inner, ho⟩ := Kd.R_own h
  rintro ad rfl
  have hk : ∃ k, (Value.slice (some ad) n c).ownBlock = some k ∧ k = ad.block := by
    obtain ⟨-, ⟨h1, -⟩ | ⟨g, _, _, h1, -⟩⟩ := ho
    · cases h1
    · injection h1 with h1
      injection h1 with h1
      subst h1
      exact ⟨g, rfl, rfl⟩
  obtain ⟨k, hk, rfl⟩ := hk
  exact ⟨own_base ho _ hk, own_lt ho _ hk⟩
theorem fdwf_of {x : S28} {i j : Nat} (h : mayB x.f0 x.f1 x.f2 = true) (hi : i ≤ 64) (hj : j ≤ 64) : FDwf (asF i j x) := by
  obtain ⟨h1, h2, h3, h4, -, -⟩ := mayB_iff.1 h
  exact ⟨⟨by show (0 : Int) ≤ i; omega, by show (i : Int) ≤ 10000; omega, by show (0 : Int) ≤ j; omega, by show (j : Int) ≤ 10000; omega⟩,
    rng_wf (by show (-9223372036854775808 : Int) ≤ x.f0; omega) (by show x.f0 ≤ (9223372036854775807 : Int); omega), rng_wf (by show (-9223372036854775808 : Int) ≤ x.f1; omega) (by show x.f1 ≤ (9223372036854775807 : Int); omega)⟩
theorem R_plain {α : Type} {d : Kd α} {e base : Nat} {W : World} {ok : Nat → Prop} {ad : Addr} {n c : Nat} {xs : List α} (h : d.R e W base ok (.slice (some ad) n c) xs) : ∃ g, ad = ⟨g, 0, none⟩ := by
  obtain ⟨inner, ho⟩ := Kd.R_own h
  obtain ⟨-, ⟨h1, -⟩ | ⟨g, _, _, h1, -⟩⟩ := ho
  · cases h1
  · injection h1 with h1
    injection h1 with h1
    exact ⟨g, h1⟩
set_option maxHeartbeats 4000000 in
set_option maxRecDepth 100000 in
theorem awake11 (w : World) : Calls Try.prog 9 #[] w fun e w' => e = .returned (.bool true) ∧ Below w.heap.size w w' := by
  obtain ⟨kk, hkk⟩ := aw_bytes
  have HKK := Aside0.mk hkk
  clear hkk
  go_enter Try.func9, Try.ntmps9
  go_wp2_with fail
  refine (newH w 3 2 none 0 [] (C_none8 w) (by decide) (by decide) (by decide) (by decide) (by decide) (by decide)).mono ?_
  rintro ev w1 ⟨g, rfl, hh, hbn⟩
  obtain ⟨S, hS⟩ : ∃ S : Nat → Prop, (fun k => w.heap.size ≤ k ∧ k < w1.heap.size) = S := ⟨_, rfl⟩
  rw [hS] at hh
  have HH1 := Aside0.mk hh
  have HB1 := Aside0.mk hbn
  clear hh hbn hS
  have kc := fun (w : World) (C : Array Value) (n c : Nat) => Lib.run_convert_bytes_const (P := Try.prog) w 26 5 C n c Try.underlying26 Try.underlying5
  go_wp2_with fail
  refine (potsherdref3_SheetBytes.calls kk 0 4 (some ⟨w1.heap.size, 0, none⟩) 1 [114] rB 0 _ (lits_C w1 [114] (by decide) _) (Nat.le_refl _) HKK.out).mono ?_
  rintro ev w2 ⟨v, rfl, hR, hb⟩
  clear kc
  have hb2 := below_step (below_alloc (Below.refl _ _) _) hb
  have HB2 := Aside0.mk (below_step HB1.out hb2)
  have HH2 := Aside0.mk (HH1.out.below hb2)
  obtain ⟨A2, c2, rfl, hc2, hC2⟩ := Kd.R_reads hR
  have HC2 := Aside0.mk hC2
  have HA2 : Aside0 (∀ ad, A2 = some ad → ad.block < w2.heap.size ∧ ¬ S ad.block) := ⟨fun ad hA => by
    obtain ⟨q1, q2⟩ := R_at hR ad hA
    refine ⟨q2, fun hs => ?_⟩
    have q3 := HH1.out.lt _ hs
    have q4 := (below_alloc (Below.refl w1.heap.size w1) (.cells #[.int .u8 114] 5 (1, 2))).size
    simp at q1
    omega⟩
  clear hR hb hb2 HB1 HH1 HKK hC2
  go_wp2_with fail
  refine (programH HH2.out 1 0 A2 c2 rB HC2.out hc2 HA2.out).mono ?_
  rintro ev w3 ⟨rfl, S3, hh3, hn3⟩
  rw [aw_prog] at hh3 ⊢
  have HB3 := Aside0.mk (HB2.out.trans hn3.bel)
  have HH3 := Aside0.mk hh3
  clear hh3 hn3 HC2 HA2 HH2 HB2 hc2
  go_wp2_with fail
  refine (sd_new HB3.out HH3.out aw_ok (by decide)).mono ?_
  rintro ev w4 ⟨q, rfl, hq, -, hs4⟩
  have HS4 := Aside0.mk hs4
  clear hs4 HB3 HH3 hq
  go_wp2_with fail
  refine (sd_step HS4.out aw_ok (by decide) (by decide) (by decide) (by decide) 4 (by decide) (by decide) 4 (by decide)).mono ?_
  rintro ev w5 ⟨rfl, hs5⟩
  have HS5 := Aside0.mk hs5
  clear hs5 HS4
  rw [show decide (awL.length * 2 ≤ 4) = false from rfl]
  go_wp2_with fail
  refine (sd_step HS5.out aw_ok (by decide) (by decide) (by decide) (by decide) 4 (by decide) (by decide) 6 (by decide)).mono ?_
  rintro ev w6 ⟨rfl, hs6⟩
  have hs6' := hs6.over (by decide) (by decide) (by decide) (by decide) (by decide)
  rw [aw_F, aw_N] at hs6'
  have HS6 := Aside0.mk hs6'
  clear hs6 HS5 hs6'
  rw [show decide (awL.length * 2 ≤ 6) = true from rfl]
  go_wp2_with fail
  refine (mroot HS6.out (by decide) (fun x hx => by obtain rfl := List.mem_singleton.1 hx; decide) (by decide)).mono ?_
  rintro ev w7 ⟨v, rfl, hR7, hb7⟩
  rw [show rootL [xr] = xr from rfl] at hR7 ⊢
  obtain ⟨A7, c7, rfl, hc7, hC7⟩ := Kd.R_reads hR7
  have HC7 := Aside0.mk hC7
  have HS7 := Aside0.mk (HS6.out.step hb7)
  clear hR7 hC7 hb7 HS6
  simp only [show (decide (0 < xr.f1)) = true from rfl, show xr.f0 = 0 from rfl, show xr.f1 = 4 from rfl, show xr.f2 = [114] from rfl] at HC7 hc7 ⊢
  go_upto_region 8 with fail
  obtain ⟨w8, hw8⟩ : ∃ W, w7.alloc (.cells #[.int .i64 0, .int .i64 4, (.slice A7 1 c7)] 28 (0, 0)) = W := ⟨_, rfl⟩
  obtain ⟨b7, hb7⟩ : ∃ b, w7.heap.size = b := ⟨_, rfl⟩
  have hbl8 : Below w7.heap.size w7 w8 := by rw [← hw8]; exact below_alloc (Below.refl _ _) _
  have HX8 : Aside0 (w8.heap[b7]? = some (.cells #[.int .i64 0, .int .i64 4, (.slice A7 1 c7)] 28 (0, 0))) := ⟨by rw [← hw8, ← hb7]; exact blk_new w7 _⟩
  have HS8 := Aside0.mk (HS7.out.step hbl8)
  have HC8 := Aside0.mk (Kd.C_below HC7.out hbl8)
  rw [hw8, hb7]
  clear hw8 hb7 hbl8 HS7 HC7
  go_wp2_with fail
  have hL8 : Kd.C k2 (w8.alloc (.cells #[.int .i64 0, .int .i64 4] 31)) (some ⟨w8.heap.size, 0, none⟩) 1 [(0, 4)] := k2_lit (l := [(0, 4)]) (by decide) (fun j r hj => by
    match j, hj with
    | 0, hj =>
      obtain rfl : ((0, 4) : Rf) = r := by simpa using hj
      exact two (blk_new w8 _)
    | j + 1, hj => simp at hj)
  refine (sc_pick (HS8.out.step (below_alloc (Below.refl _ _) _)) hL8 (by decide) (by decide) (by decide) (fun x hx => by obtain rfl := List.mem_singleton.1 hx; exact fdwf_of (x := xr) (i := 1) (j := 0) may_r (by decide) (by decide)) (List.pairwise_singleton _ _)).mono ?_
  rintro ev w9 ⟨v, rfl, hR9, hb9⟩
  rw [show pickL [(0, 4)] awF = (awF, 0) from by rfl] at hR9 ⊢
  obtain ⟨A9, c9, rfl, hc9, hC9⟩ := Kd.R_reads hR9
  have hb9' := below_step (below_alloc (Below.refl _ _) _) hb9
  have HX9 := Aside0.mk (blk_below HX8.out hb9')
  have HC9 := Aside0.mk (Kd.C_below HC8.out hb9')
  have HS9 := Aside0.mk (HS8.out.step hb9')
  have HF9 := Aside0.mk hC9
  have hpl := @R_plain _ kFD 49 w8.heap.size w9 (fun _ => True)
  have HP9 : Aside0 (∀ ad, A9 = some ad → ∃ g, ad = ⟨g, 0, none⟩) := ⟨fun ad hA => by subst hA; exact R_plain hR9⟩
  clear hpl hR9 hb9 hC9 hb9' hL8 HX8 HC8 HS8
  go_upto_region 9 with fail
  obtain ⟨-, -, hcell⟩ := shHeld3 HX9.out (Below.refl _ _)
  have hcv : (convert 26 9 (.slice A7 1 c7)).run Try.prog w9 = .ok (.string { data := #[114] }) w9 := conv22 (c := c7) HC9.out str_r
  obtain ⟨ad, rfl, hk1, hk2, hk3, hk4⟩ := fdAt HF9.out 0 (by decide)
  obtain ⟨b9, rfl⟩ := HP9.out ad rfl
  simp only [show awF.getD 0 zFD = ⟨0, 4, 1, 0⟩ from rfl, Nat.zero_mul, add_at, Nat.zero_add] at hk1 hk2 hk3 hk4
  have hlen9 : awF.length = 1 := rfl
  rw [hlen9]
  go_wp2_with fail
  refine (sc_seq HS9.out (by decide)).mono ?_
  rintro ev w10 ⟨rfl, hb10⟩
  have hk3' := pw_cell_below hb10 hk3
  have HB10 := Aside0.mk (HS9.out.step hb10).below
  clear hk1 hk2 hk3 hk4 hcell hcv HS9 HX9 HC9 HF9 hb10
  rw [show mostQ awF = 4 from rfl]
  go_wp2_with fail
  go_ret
  exact ⟨rfl, HB10.out⟩
end Go.Proofs.Ytkncmbbkehnagaa.Cm

set_option linter.unusedVariables false
set_option linter.unusedSimpArgs false
/-! MountNil. -/
namespace Go.Proofs.Ytkncmbbkehnagaa.Cm
open Go.RowKit Go.Proofs.YtkncmbbkehnagaaW.PrintWords Go.Proofs.YtkncmbbkehnagaaW.PrintLast Go.Proofs.YtkncmbbkehnagaaW.PrintMore Go.Proofs.Ytkncmbbkehnagaa.Kp Go.Proofs.Ytkncmbbkehnagaa.Cp Go.Proofs.Ytkncmbbkehnagaa.PAll Go.Proofs.Ytkncmbbkehnagaa.Iter Go.Proofs.Ytkncmbbkehnagaa.St Go.Proofs.Ytkncmbbkehnagaa.Sp
attribute [local go_sem] max2_int min2_int max_two min_two max_three min_three max_four min_four

structure S31 where
  f0 : Int
  f1 : Int
theorem Sg.next {w0 W : World} {b0 : Nat} {S : Nat → Prop} {g q k : Nat} {s : Chp} {all : List Sp2} (h : Sg w0 W b0 S g q s all k) : Sc w0 W b0 S g q (scanS s (all.take k)) (all.drop k) (scanF s (all.take k)) (scanN s (all.take k)) := h
theorem Sc.box {w0 W : World} {b0 : Nat} {S : Nat → Prop} {g q : Nat} {s : Chp} {sp : List Sp2} {fs : List FD} {shs : List S28} (h : Sc w0 W b0 S g q s sp fs shs) : ¬ S q ∧ ∃ vs vf vh, W.heap[q]? = some (.cells (scCells g vs vf vh) 87 (0, 0)) := by
  obtain ⟨b1, A, c, vf, vh, h⟩ := h
  refine ⟨fun hs => ?_, _, _, _, h.box⟩
  have := h.lt1 q hs
  have := h.q1
  omega
end Go.Proofs.Ytkncmbbkehnagaa.Cm

set_option linter.unusedVariables false
set_option linter.unusedSimpArgs false
/-! light; Steps. -/
namespace Go.Proofs.Ytkncmbbkehnagaa.Cm
open Go.RowKit Go.Proofs.YtkncmbbkehnagaaW.PrintWords Go.Proofs.YtkncmbbkehnagaaW.PrintLast Go.Proofs.YtkncmbbkehnagaaW.PrintMore Go.Proofs.Ytkncmbbkehnagaa.Kp Go.Proofs.Ytkncmbbkehnagaa.Cp Go.Proofs.Ytkncmbbkehnagaa.PAll Go.Proofs.Ytkncmbbkehnagaa.Iter Go.Proofs.Ytkncmbbkehnagaa.St Go.Proofs.Ytkncmbbkehnagaa.Sp
attribute [local go_sem] max2_int min2_int max_two min_two max_three min_three max_four min_four

def ltB (x : S28) : Bool := decide (x.f2.length ≤ 100)
set_option maxHeartbeats 2000000 in
set_option maxRecDepth 100000 in
theorem heavyNil (w : World) : Calls Try.prog 24 #[.slice none 0 0] w fun e w' => e = .returned (.int .i64 0) ∧ w' = w := by
  go_enter Try.func24, Try.ntmps24
  go_wp2_with fail
  go_loop [7] (fun v7 => v7 = .int .i64 0) (fun v7 => 0)
  case atStart => rfl
  case round =>
    subst hrel
    go_wp2
    go_ret
    exact ⟨rfl, rfl⟩
set_option maxHeartbeats 4000000 in
set_option maxRecDepth 100000 in
theorem light11 {w : World} {A : Option Addr} {c : Nat} {l : List S28} (hC : Kd.C k28 w A l.length l) (hl : l.length ≤ 60) : Calls Try.prog 8 #[.slice none 0 0, .slice A l.length c] w fun e w' => e = .returned (.bool (l.all ltB)) ∧ Below w.heap.size w w' := by
  have HC := Aside0.mk hC
  have HL := Aside0.mk hl
  obtain ⟨R, hR⟩ : ∃ R, l.all ltB = R := ⟨_, rfl⟩
  rw [hR]
  have HR := Aside0.mk hR
  have hl60 : decide ((l.length : Int) ≤ 60) = true := decide_eq_true (by omega)
  have hl60n : decide (l.length ≤ 60) = true := decide_eq_true (by omega)
  clear hC hl hR
  go_enter Try.func8, Try.ntmps8
  go_wp2_with fail
  go_loopw [9] (fun v9 wr => ∃ (k : Nat), k ≤ l.length ∧ v9 = .int .i64 (k : Int) ∧ Aside0 ((l.take k).all ltB = true) ∧ Aside0 (Below w.heap.size w wr)) (fun v9 _ => l.length - (intOf v9).toNat)
  case atStart => exact ⟨0, Nat.zero_le _, rfl, ⟨rfl⟩, ⟨Below.refl _ _⟩⟩
  case round =>
    obtain ⟨k, hk, rfl, HA, HB⟩ := hrel
    by_cases hlt : k < l.length
    · have hlt2 : (k : Int) < (l.length : Int) := by omega
      have HLT := Aside0.mk hlt
      have hw3 : wrap64 ((k : Int) + 1) = ((k + 1 : Nat) : Int) := by rw [show (k : Int) + 1 = ((k + 1 : Nat) : Int) by omega]; exact wrap_small _ (by omega) (by have := HL.out; omega)
      obtain ⟨x, hx⟩ : ∃ x, l[k]? = some x := ⟨_, List.getElem?_eq_getElem hlt⟩
      have hrd : rd_T28 l (k : Int) = x := by unfold rd_T28; rw [List.getD_eq_getElem?_getD, Int.toNat_natCast, hx]; rfl
      obtain ⟨ad, A5, c5, hA5, x0, x1, x2, hle5, hC5⟩ := at_T28 HC.out (k : Int) (by omega) hlt2
      replace x0 := pw_cell_below HB.out x0
      replace x1 := pw_cell_below HB.out x1
      replace x2 := pw_cell_below HB.out x2
      rw [hrd] at x0 x1 x2 hle5 hC5
      rw [Int.toNat_natCast] at x0 x1 x2
      cases hA5
      have HX := Aside0.mk hx
      clear hk hlt hx hrd hC5 hle5
      go_upto_region 4 with fail
      obtain ⟨w6, hw6⟩ : ∃ w6, wr.alloc (.cells #[.int .i64 x.f0, .int .i64 x.f1, .slice A5 x.f2.length c5] 28) = w6 := ⟨_, rfl⟩
      obtain ⟨b6, hb6⟩ : ∃ x, wr.heap.size = x := ⟨_, rfl⟩
      have HB6 : Aside0 (Below w.heap.size w w6) := ⟨by rw [← hw6]; exact below_alloc HB.out _⟩
      have hx6 : w6.heap[b6]? = some (.cells #[.int .i64 x.f0, .int .i64 x.f1, .slice A5 x.f2.length c5] 28 (0, 0)) := by rw [← hw6, ← hb6]; exact blk_new wr _
      rw [hw6, hb6]
      clear x0 x1 x2
      obtain ⟨x0, x1, x2, -, -, -⟩ := Parse.three hx6
      clear hw6 hb6 hx6
      have hstep : (l.take (k + 1)).all ltB = decide (x.f2.length ≤ 100) := by
        rw [take_snoc2 l k x HX.out, List.all_append, HA.out]
        simp [ltB]
      by_cases hp : x.f2.length ≤ 100
      · have d1 : decide ((100 : Int) < x.f2.length) = false := decide_eq_false (by omega)
        have d2 : decide (100 < x.f2.length) = false := decide_eq_false (by omega)
        rw [decide_eq_true hp] at hstep
        have HS := Aside0.mk hstep
        clear hp hstep HA HB
        go_wp2_with fail
        clear x0 x1 x2
        go_roundw
        case measure =>
          have hm : l.length - ((k + 1 : Nat) : Int).toNat < l.length - ((k : Nat) : Int).toNat := by
            rw [Int.toNat_natCast, Int.toNat_natCast]
            exact Nat.sub_lt_sub_left HLT.out (Nat.lt_succ_self k)
          first | exact hm | (rw [hw3]; exact hm)
        case rel => exact ⟨k + 1, HLT.out, by first | rw [hw3] | rfl, HS, HB6⟩
      · have d1 : decide ((100 : Int) < x.f2.length) = true := decide_eq_true (by omega)
        have d2 : decide (100 < x.f2.length) = true := decide_eq_true (by omega)
        have hRf : R = false := by
          rw [← HR.out]
          rw [← List.take_append_drop (k + 1) l, List.all_append, hstep, decide_eq_false hp]
          rfl
        subst hRf
        clear hp hstep HA HB
        go_wp2_with fail
        go_ret
        exact ⟨rfl, HB6.out⟩
    · have hke : k = l.length := by omega
      have hRt : R = true := by
        rw [← HR.out]
        have := HA.out
        rw [hke, List.take_length] at this
        exact this
      subst hRt
      have hlt2 : ¬ ((k : Int) < (l.length : Int)) := by omega
      subst hke
      have HB2 := HB
      clear hlt hk HA
      go_wp2_with fail
      refine (heavyNil wr).mono ?_
      rintro ev w8 ⟨rfl, hw⟩
      rw [hw]
      clear hw w8
      go_wp2_with fail
      go_ret
      exact ⟨rfl, HB.out⟩
end Go.Proofs.Ytkncmbbkehnagaa.Cm

set_option linter.unusedVariables false
set_option linter.unusedSimpArgs false
/-! Steps. -/
namespace Go.Proofs.Ytkncmbbkehnagaa.Cm
open Go.RowKit Go.Proofs.YtkncmbbkehnagaaW.PrintWords Go.Proofs.YtkncmbbkehnagaaW.PrintLast Go.Proofs.YtkncmbbkehnagaaW.PrintMore Go.Proofs.Ytkncmbbkehnagaa.Kp Go.Proofs.Ytkncmbbkehnagaa.Cp Go.Proofs.Ytkncmbbkehnagaa.PAll Go.Proofs.Ytkncmbbkehnagaa.Iter Go.Proofs.Ytkncmbbkehnagaa.St Go.Proofs.Ytkncmbbkehnagaa.Sp
attribute [local go_sem] max2_int min2_int max_two min_two max_three min_three max_four min_four

theorem five_at {W : World} {b t : Nat} {x0 x1 x2 x3 x4 : Value} (h : W.heap[b]? = some (.cells #[x0, x1, x2, x3, x4] t (0, 0))) : W.cell? ⟨b, 0, none⟩ = some x0 ∧ W.cell? ⟨b, 1, none⟩ = some x1 ∧ W.cell? ⟨b, 2, none⟩ = some x2 ∧ W.cell? ⟨b, 3, none⟩ = some x3 ∧ W.cell? ⟨b, 4, none⟩ = some x4 :=
  ⟨(blk_cell h 0).trans rfl, (blk_cell h 1).trans rfl, (blk_cell h 2).trans rfl, (blk_cell h 3).trans rfl, (blk_cell h 4).trans rfl⟩
set_option maxHeartbeats 4000000 in
set_option maxRecDepth 100000 in
theorem mayplan (w : World) : Calls Try.prog 45 #[.agg #[.int .i64 64, .int .i64 32, .int .i64 0, .int .i64 1, .int .i64 2]] w fun e w' => e = .returned (.bool true) ∧ Below w.heap.size w w' := by
  obtain ⟨w1, hw1⟩ : ∃ w1, w.alloc (.cells #[.int .i64 64, .int .i64 32, .int .i64 0, .int .i64 1, .int .i64 2] 63) = w1 := ⟨_, rfl⟩
  have HB : Aside0 (Below w.heap.size w w1) := ⟨by rw [← hw1]; exact below_alloc (Below.refl _ _) _⟩
  have hx : w1.heap[w.heap.size]? = some (.cells #[.int .i64 64, .int .i64 32, .int .i64 0, .int .i64 1, .int .i64 2] 63 (0, 0)) := by rw [← hw1]; exact blk_new w _
  obtain ⟨c0, c1, c2, c3, c4⟩ := five_at hx
  clear hx
  go_enter Try.func45, Try.ntmps45
  go_wp2_with fail
  go_ret
  exact ⟨rfl, HB.out⟩
set_option maxHeartbeats 4000000 in
set_option maxRecDepth 100000 in
theorem steps (w : World) (n : Int) (h1 : 1 ≤ n) (h2 : n ≤ 30) : Calls Try.prog 22 #[.agg #[.int .i64 64, .int .i64 32, .int .i64 0, .int .i64 1, .int .i64 2], .int .i64 n] w fun e w' => ∃ m : Nat, e = .returned (.int .i64 (m : Int)) ∧ 68 ≤ m ∧ m ≤ 3000 ∧ Below w.heap.size w w' := by
  obtain ⟨w1, hw1⟩ : ∃ w1, w.alloc (.cells #[.int .i64 64, .int .i64 32, .int .i64 0, .int .i64 1, .int .i64 2] 63) = w1 := ⟨_, rfl⟩
  have HB : Aside0 (Below w.heap.size w w1) := ⟨by rw [← hw1]; exact below_alloc (Below.refl _ _) _⟩
  have HX : Aside0 (w1.heap[w.heap.size]? = some (.cells #[.int .i64 64, .int .i64 32, .int .i64 0, .int .i64 1, .int .i64 2] 63 (0, 0))) := ⟨by rw [← hw1]; exact blk_new w _⟩
  have d1 : decide (n < 1) = false := decide_eq_false (by omega)
  have d2 : decide (2048 ≤ n) = false := decide_eq_false (by omega)
  have d3 : (n == 0) = false := by rw [beq_eq_false_iff_ne]; omega
  have d4 : n ≠ 0 := by omega
  have e1 : wrap64 (2048 + n) = 2048 + n := by unfold wrap64; omega
  have e2 : wrap64 (2048 + n - 1) = 2047 + n := by unfold wrap64; omega
  have hq : 68 ≤ Int.tdiv (2047 + n) n ∧ Int.tdiv (2047 + n) n ≤ 3000 := by
    rw [Int.tdiv_eq_ediv_of_nonneg (by omega)]
    constructor
    · exact (Int.le_ediv_iff_mul_le (by omega)).2 (by omega)
    · exact Int.ediv_le_of_le_mul (by omega) (by omega)
  obtain ⟨m, hm⟩ : ∃ m : Nat, wrap64 (Int.tdiv (2047 + n) n) = (m : Int) := ⟨(Int.tdiv (2047 + n) n).toNat, by unfold wrap64; omega⟩
  have hmm : 68 ≤ m ∧ m ≤ 3000 := by unfold wrap64 at hm; omega
  have HM := Aside0.mk hmm
  clear hq hmm h1 h2
  obtain ⟨c0, c1, c2, c3, c4⟩ := five_at HX.out
  go_enter Try.func22, Try.ntmps22
  go_wp2_with fail
  refine (mayplan w1).mono ?_
  rintro ev w2 ⟨rfl, hb⟩
  have HB2 := Aside0.mk (below_step HB.out hb)
  clear c0 c1 c2 c3 c4
  obtain ⟨c0, c1, c2, c3, c4⟩ := five_at (blk_below HX.out hb)
  clear hb
  go_wp2_with fail
  go_ret
  exact ⟨m, congrArg (fun v => Ending.returned (.int .i64 v)) hm, HM.out.1, HM.out.2, HB2.out⟩
end Go.Proofs.Ytkncmbbkehnagaa.Cm

set_option linter.unusedVariables false
set_option linter.unusedSimpArgs false
/-! MountNew, plainly. -/
namespace Go.Proofs.Ytkncmbbkehnagaa.Cm
open Go.RowKit Go.Proofs.YtkncmbbkehnagaaW.PrintWords Go.Proofs.YtkncmbbkehnagaaW.PrintLast Go.Proofs.YtkncmbbkehnagaaW.PrintMore Go.Proofs.Ytkncmbbkehnagaa.Kp Go.Proofs.Ytkncmbbkehnagaa.Cp Go.Proofs.Ytkncmbbkehnagaa.PAll Go.Proofs.Ytkncmbbkehnagaa.Iter Go.Proofs.Ytkncmbbkehnagaa.St Go.Proofs.Ytkncmbbkehnagaa.Sp Go.Proofs.Ytkncmbbkehnagaa.Pl1 Go.Proofs.Ytkncmbbkehnagaa.Pl2

def nwL (nb : Nat) (l : List S28) : List (List (List Int)) := lay l :: List.replicate nb []
theorem nwL_len (nb : Nat) (l : List S28) : (nwL nb l).length = nb + 1 := by simp [nwL]
theorem lay_len (l : List S28) : (lay l).length = l.length := by simp [lay]
theorem lay_snoc (l : List S28) (x : S28) : lay (l ++ [x]) = lay l ++ [laidL x.f0 x.f1 x.f2] := by simp [lay]
theorem lay_mem {l : List S28} {y : List Int} (h : y ∈ lay l) : ∃ x ∈ l, y = laidL x.f0 x.f1 x.f2 := by
  obtain ⟨x, hx, rfl⟩ := List.mem_map.1 h
  exact ⟨x, hx, rfl⟩
def GoodS (x : S28) : Prop := mayB x.f0 x.f1 x.f2 = true ∧ Bytes x.f2
theorem GoodS.fine {x : S28} (h : GoodS x) : Bytes (laidL x.f0 x.f1 x.f2) ∧ 1 ≤ (laidL x.f0 x.f1 x.f2).length ∧ (laidL x.f0 x.f1 x.f2).length ≤ 2000 := by
  obtain ⟨h1, h2, h3, h4, h5, h6⟩ := mayB_iff.1 h.1
  refine ⟨Go.Proofs.Ytkncmbbkehnagaa.Bd.laid_bytes h.2 (by omega), ?_, h6⟩
  unfold laidL
  simp only [List.length_append, List.length_singleton]
  omega
theorem lay_ok {p : Nat} {l : List S28} (hl : l.length ≤ p) (h : ∀ x ∈ l, GoodS x) : (lay l).length ≤ p ∧ ∀ y ∈ lay l, Bytes y ∧ y.length ≤ 2000 := by
  refine ⟨by rw [lay_len]; exact hl, fun y hy => ?_⟩
  obtain ⟨x, hx, rfl⟩ := lay_mem hy
  exact ⟨(h x hx).fine.1, (h x hx).fine.2.2⟩
theorem nil_blk (p : Nat) : ([] : List (List Int)).length ≤ p ∧ ∀ y ∈ ([] : List (List Int)), Bytes y ∧ y.length ≤ 2000 := ⟨Nat.zero_le _, fun y hy => by cases hy⟩
theorem nwL_ok {p nb : Nat} {l : List S28} (hl : l.length ≤ p) (h : ∀ x ∈ l, GoodS x) : OkL p (nwL nb l) := by
  intro B hB
  rcases List.mem_cons.1 hB with rfl | hB
  · exact lay_ok hl h
  · rw [List.eq_of_mem_replicate hB]
    exact nil_blk p
theorem flat_nil {α β : Type} (l : List α) (f : α → List β) (h : ∀ x ∈ l, f x = []) : l.flatMap f = [] := by
  induction l with
  | nil => rfl
  | cons a l ih => rw [List.flatMap_cons, h a (by simp), ih (fun x hx => h x (by simp [hx]))]; rfl
theorem range_head {β : Type} (n : Nat) (f : Nat → List β) (h : ∀ i, f (i + 1) = []) : (List.range (n + 1)).flatMap f = f 0 := by
  rw [List.range_succ_eq_map, List.flatMap_cons, List.flatMap_map, flat_nil _ _ (fun i _ => h i), List.append_nil]
theorem nwL_get (nb : Nat) (l : List S28) (i : Nat) : (nwL nb l).getD (i + 1) [] = [] := by
  unfold nwL
  rw [List.getD_cons_succ, List.getD_eq_getElem?_getD, List.getElem?_replicate]
  split <;> rfl
theorem nw_F {p nb : Nat} {l : List S28} (hl : l.length ≤ p) (h : ∀ x ∈ l, GoodS x) : (List.range (nwL nb l).length).flatMap (fun i => blkF p i ((nwL nb l).getD i [])) = fds 0 l := by
  rw [nwL_len, range_head nb _ (fun i => by rw [nwL_get, blkF_nil])]
  exact blkF_lay hl (fun x hx => (h x hx).1)
theorem nw_N {p nb : Nat} {l : List S28} (hl : l.length ≤ p) (h : ∀ x ∈ l, GoodS x) : (nwL nb l).flatMap (blkN p) = l := by
  unfold nwL
  rw [List.flatMap_cons, blkN_lay hl (fun x hx => (h x hx).1), flat_nil _ _ (fun B hB => by rw [List.eq_of_mem_replicate hB, blkN_nil]), List.append_nil]
theorem fds_len (i : Nat) (l : List S28) : (fds i l).length = l.length := by simp [fds]
/-- The greatest number. -/
def seqM (l : List S28) : Int := l.foldl (fun m x => if m < x.f1 then x.f1 else m) 0
theorem seqM_snoc (l : List S28) (x : S28) : seqM (l ++ [x]) = if seqM l < x.f1 then x.f1 else seqM l := by
  unfold seqM
  rw [List.foldl_append]
  rfl
theorem mostQ_fds (i : Nat) (l : List S28) : mostQ (fds i l) = seqM l := by
  have e : (fds i l).map (fun x => x.q) = l.map (fun x => x.f1) := by
    unfold fds
    rw [List.map_map]
    have := congrArg (List.map (fun x : S28 => x.f1)) (range_getD z28 l)
    rw [List.map_map] at this
    exact this
  have e1 : mostQ (fds i l) = ((fds i l).map (fun x => x.q)).foldl (fun m x => if m < x then x else m) 0 := by
    rw [List.foldl_map]
    rfl
  have e2 : seqM l = (l.map (fun x => x.f1)).foldl (fun m x => if m < x then x else m) 0 := by
    rw [List.foldl_map]
    rfl
  rw [e1, e2, e]
/-- How many pages are read. -/
def rdU (L : List (List (List Int))) (x : Sp2) : List Unit := if L.getD x.1.toNat [] = [] then [] else [()]
theorem scan_br {p : Nat} {L : List (List (List Int))} {bp kp : Int} (h1 : 1 ≤ L.length) (h2 : L.length ≤ 64) (h3 : 1 ≤ p) (h4 : p ≤ 32) : ∀ (l : List Sp2) (r : Int), 0 ≤ r → r + l.length ≤ 200000 → (∀ x ∈ l, x ∈ spots2 L.length p) → scanS (mkC p L r bp kp) l = mkC p L (r + (l.flatMap (rdU L)).length) bp kp := by
  intro l
  induction l with
  | nil => intro r _ _ _; simp [scanS]
  | cons x l ih =>
    intro r hr hl hm
    obtain ⟨i, j, hi, hj, rfl⟩ := spots2_mem h1 h2 h3 h4 (hm x (by simp))
    rw [List.length_cons] at hl
    have e : scanS (mkC p L r bp kp) (((i : Int), (j : Int)) :: l) = scanS (rdChip (mkC p L r bp kp) i j) l := rfl
    rw [e, List.flatMap_cons, List.length_append]
    have e2 : rdChip (mkC p L r bp kp) i j = mkC p L (r + (rdU L ((i : Int), (j : Int))).length) bp kp := by
      unfold rdChip rdU
      rw [mkC_blockB hi]
      simp only [Int.toNat_natCast]
      by_cases hz : L.getD i [] = []
      · rw [if_pos hz, if_pos (by show (((L.getD i []).length : Nat) : Int) = 0; rw [hz]; rfl)]
        simp
      · rw [if_neg hz, if_neg (by
          simp only [shB]
          intro h0
          exact hz (List.eq_nil_of_length_eq_zero (by omega)))]
        unfold readS
        rw [if_pos ⟨mkC_spot hi hj, rfl⟩]
        have : wrap64 (r + 1) = r + 1 := by unfold wrap64; omega
        show mkC p L (wrap64 (r + 1)) bp kp = _
        rw [this]
        rfl
    have hu : (rdU L ((i : Int), (j : Int))).length ≤ 1 := by unfold rdU; split <;> simp
    have hr3 : 0 ≤ r + ((rdU L ((i : Int), (j : Int))).length : Int) := by omega
    rw [e2]
    clear e e2
    rw [ih _ hr3 (by omega) (fun y hy => hm y (by simp [hy])), Int.add_assoc, Int.natCast_add]
theorem nw_br {p nb : Nat} {l : List S28} {r bp kp : Int} (hb : nb + 1 ≤ 64) (h3 : 1 ≤ p) (h4 : p ≤ 32) (hr : 0 ≤ r) (hr2 : r ≤ 100000) : ∃ r', scanS (mkC p (nwL nb l) r bp kp) (spots2 ((nb + 1 : Nat) : Int) (p : Int)) = mkC p (nwL nb l) r' bp kp ∧ r ≤ r' ∧ r' ≤ r + p ∧ (l = [] → r' = r) := by
  have hl := nwL_len nb l
  have hsp := spots2_len (n := nb + 1) (p := p) (by omega) hb h3 h4
  have hbig : (nb + 1) * p ≤ 64 * 32 := Nat.mul_le_mul hb h4
  have := scan_br (L := nwL nb l) (bp := bp) (kp := kp) (by omega) (by omega) h3 h4 (spots2 ((nb + 1 : Nat) : Int) (p : Int)) r hr (by rw [hsp]; omega) (fun x hx => by rw [hl]; exact hx)
  rw [this, scan_grid (by omega) hb h3 h4, range_head nb _ (fun i => flat_nil _ _ (fun j _ => by unfold rdU; simp only [Int.toNat_natCast]; rw [if_pos (nwL_get nb l i)]))]
  refine ⟨_, rfl, by omega, ?_, fun h => ?_⟩
  · have : ∀ m : Nat, ((List.range m).flatMap (fun j : Nat => rdU (nwL nb l) (((0 : Nat) : Int), (j : Int)))).length ≤ m := by
      intro m
      induction m with
      | zero => simp
      | succ m ih =>
        rw [List.range_succ, List.flatMap_append, List.length_append]
        have hu : (rdU (nwL nb l) (((0 : Nat) : Int), (m : Int))).length ≤ 1 := by unfold rdU; split <;> simp
        simp only [List.flatMap_cons, List.flatMap_nil, List.append_nil]
        omega
    have := this p
    omega
  · rw [flat_nil _ _ (fun j _ => by unfold rdU; rw [if_pos (by rw [h]; rfl)])]
    simp
end Go.Proofs.Ytkncmbbkehnagaa.Cm

set_option linter.unusedVariables false
set_option linter.unusedSimpArgs false
/-! What is picked, plainly. -/
namespace Go.Proofs.Ytkncmbbkehnagaa.Cm
open Go.RowKit Go.Proofs.YtkncmbbkehnagaaW.PrintWords Go.Proofs.YtkncmbbkehnagaaW.PrintLast Go.Proofs.YtkncmbbkehnagaaW.PrintMore Go.Proofs.Ytkncmbbkehnagaa.Kp Go.Proofs.Ytkncmbbkehnagaa.Cp Go.Proofs.Ytkncmbbkehnagaa.PAll Go.Proofs.Ytkncmbbkehnagaa.Iter Go.Proofs.Ytkncmbbkehnagaa.St Go.Proofs.Ytkncmbbkehnagaa.Sp Go.Proofs.Ytkncmbbkehnagaa.Pl1 Go.Proofs.Ytkncmbbkehnagaa.Pl2

theorem fds_mem {i : Nat} {l : List S28} {x : FD} (h : x ∈ fds i l) : ∃ (j : Nat) (s : S28), j < l.length ∧ l[j]? = some s ∧ x = asF i j s := by
  obtain ⟨j, hj, rfl⟩ := List.mem_map.1 h
  have hj := List.mem_range.1 hj
  exact ⟨j, l[j], hj, List.getElem?_eq_getElem hj, by rw [getD_at z28 hj]⟩
theorem mem_fds {i j : Nat} {l : List S28} {s : S28} (h : l[j]? = some s) : asF i j s ∈ fds i l := by
  have hj := (List.getElem?_eq_some_iff.1 h).1
  refine List.mem_map.2 ⟨j, List.mem_range.2 hj, ?_⟩
  rw [getD_at z28 hj, (List.getElem?_eq_some_iff.1 h).2]
theorem fds_wf {i : Nat} {l : List S28} (hi : i ≤ 64) (hl : l.length ≤ 64) (h : ∀ x ∈ l, GoodS x) : ∀ x ∈ fds i l, FDwf x := fun x hx => by
  obtain ⟨j, s, hj, hs, rfl⟩ := fds_mem hx
  exact fdwf_of (h s (List.mem_of_getElem? hs)).1 hi (by omega)
theorem fds_ap (i : Nat) (l : List S28) : SpApart (fds i l) := by
  unfold SpApart fds
  rw [List.pairwise_map]
  refine List.Pairwise.imp ?_ List.pairwise_lt_range
  intro a b hab e
  have : ((a : Nat) : Int) = (b : Int) := congrArg Prod.snd e
  omega
theorem keepF_mem {l : List FD} {r : Rf} {x : FD} : x ∈ keepF l r ↔ x ∈ l ∧ x.p = r.1 ∧ x.q = r.2 := by
  unfold keepF delB
  rw [List.mem_filter]
  simp
/-- What was not found. -/
theorem keepF_none {l : List FD} {r : Rf} (h : ∀ x ∈ l, ¬ (x.p = r.1 ∧ x.q = r.2)) : keepF l r = [] := List.eq_nil_iff_forall_not_mem.2 (fun x hx => h x (keepF_mem.1 hx).1 (keepF_mem.1 hx).2)
theorem twice_one (r : Rf) : twiceB [r] = false := by
  unfold twiceB twiceN
  simp [List.range_succ]
theorem pick_one {i : Nat} {l : List S28} {j : Nat} {s : S28} (h : l[j]? = some s) : ∃ m, pickL [(s.f0, s.f1)] (fds i l) = ([m], 0) ∧ m.p = s.f0 ∧ m.q = s.f1 ∧ m.b = i := by
  have hm := keepF_mem.2 ⟨mem_fds (i := i) h, show (asF i j s).p = ((s.f0, s.f1) : Rf).1 from rfl, show (asF i j s).q = ((s.f0, s.f1) : Rf).2 from rfl⟩
  have hne : keepF (fds i l) (s.f0, s.f1) ≠ [] := List.ne_nil_of_mem hm
  have hmin := minF_mem (heldH [(s.f0, s.f1)] (fds i l)) _ hne
  obtain ⟨h1, h2, h3⟩ := keepF_mem.1 hmin
  obtain ⟨j', s', _, _, he⟩ := fds_mem h1
  refine ⟨_, ?_, h2, h3, by rw [he]; rfl⟩
  unfold pickL
  rw [twice_one, if_neg (by simp), if_neg (by simp [hne])]
  rfl
theorem pick_twice (p q q' : Int) (fs : List FD) : pickL [(p, q), (p, q')] fs = ([], 1) := by
  unfold pickL
  rw [if_pos (by simp [twiceB, twiceN, List.range_succ, pgB])]
theorem pick_none {r : Rf} {fs : List FD} (h : keepF fs r = []) : pickL [r] fs = ([], 8) := by
  unfold pickL
  rw [twice_one, if_neg (by simp), if_pos (by simp [h])]
theorem pick_nil (fs : List FD) : pickL [] fs = ([], 0) := by
  unfold pickL
  rw [if_neg (by simp [twiceB, twiceN]), if_neg (by simp)]
  rfl
/-- The chip of MountPicks. -/
def pkL (l : List S28) : List (List (List Int)) := [[], lay l, []]
theorem pkL_ok {l : List S28} (hl : l.length ≤ 20) (h : ∀ x ∈ l, GoodS x) : OkL 20 (pkL l) := by
  intro B hB
  rcases List.mem_cons.1 hB with rfl | hB
  · exact nil_blk 20
  · rcases List.mem_cons.1 hB with rfl | hB
    · exact lay_ok hl h
    · rw [List.mem_singleton.1 hB]
      exact nil_blk 20
theorem pk_F {l : List S28} (hl : l.length ≤ 20) (h : ∀ x ∈ l, GoodS x) : (List.range (pkL l).length).flatMap (fun i => blkF 20 i ((pkL l).getD i [])) = fds 1 l := by
  show blkF 20 0 [] ++ (blkF 20 1 (lay l) ++ (blkF 20 2 [] ++ [])) = _
  rw [blkF_nil, blkF_nil, blkF_lay hl (fun x hx => (h x hx).1)]
  simp
theorem pk_N {l : List S28} (hl : l.length ≤ 20) (h : ∀ x ∈ l, GoodS x) : (pkL l).flatMap (blkN 20) = l := by
  show blkN 20 [] ++ (blkN 20 (lay l) ++ (blkN 20 [] ++ [])) = _
  rw [blkN_nil, blkN_lay hl (fun x hx => (h x hx).1)]
  simp
theorem pk_prog {l : List S28} {k : Nat} {x : S28} (bp : Int) (hx : l[k]? = some x) (hl : l.length ≤ 20) (hg : GoodS x) : progS (mkC 20 (pkL (l.take k)) 0 bp 0) 1 (k : Int) (laidL x.f0 x.f1 x.f2) = (mkC 20 (pkL (l.take (k + 1))) 0 (wrap64 (bp + 1)) 0, 0) := by
  have hk := (List.getElem?_eq_some_iff.1 hx).1
  have hlk : (lay (l.take k)).length = k := by rw [lay_len, List.length_take]; omega
  have h_ := prog_mk (p := 20) (L := pkL (l.take k)) 0 bp 0 (i := 1) (B := lay (l.take k)) (laidL x.f0 x.f1 x.f2) rfl (by rw [hlk]; omega) (by decide) hg.fine.2.1 hg.fine.2.2
  rw [hlk] at h_
  refine h_.trans ?_
  have h2_ : (pkL (l.take k)).set 1 (lay (l.take k) ++ [laidL x.f0 x.f1 x.f2]) = pkL (l.take (k + 1)) := by
    rw [take_snoc2 l k x hx]
    unfold pkL
    rw [lay_snoc]
    rfl
  rw [h2_]
end Go.Proofs.Ytkncmbbkehnagaa.Cm

