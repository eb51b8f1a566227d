import Derived.Test.YtmoefknefopdlaaPl1
set_option linter.unusedVariables false
set_option linter.unusedSimpArgs false
/-! Numbers as bytes, in plain words: what is read. -/
namespace Go.Proofs.Ytmoefknefopdlaa.Pl2
open Go.RowKit Go.Proofs.YtmoefknefopdlaaW.PrintWords Go.Proofs.YtmoefknefopdlaaW.PrintLast Go.Proofs.YtmoefknefopdlaaW.PrintMore Go.Proofs.Ytmoefknefopdlaa.PAll Go.Proofs.Ytmoefknefopdlaa.Pl1

def Bytes (l : List Int) : Prop := ∀ x ∈ l, 0 ≤ x ∧ x < 256
theorem Bytes.cons {c : Int} {l : List Int} (h : Bytes (c :: l)) : (0 ≤ c ∧ c < 256) ∧ Bytes l := ⟨h c (by simp), fun x hx => h x (by simp [hx])⟩
theorem Bytes.drop {l : List Int} (h : Bytes l) (n : Nat) : Bytes (l.drop n) := fun x hx => h x (List.mem_of_mem_drop hx)
theorem Bytes.take {l : List Int} (h : Bytes l) (n : Nat) : Bytes (l.take n) := fun x hx => h x (List.mem_of_mem_take hx)
theorem Bytes.append {a b : List Int} (h : Bytes a) (k : Bytes b) : Bytes (a ++ b) := fun x hx => by
  rcases List.mem_append.1 hx with h1 | h1
  · exact h x h1
  · exact k x h1

/-- m digits at most; b: it is the first one; n: what is read so far, of i bytes. -/
def scan : Nat → Bool → Int → Nat → List Int → Option (Int × Nat)
  | 0, _, _, _, _ => none
  | _ + 1, _, _, _, [] => none
  | m + 1, b, n, i, c :: l => if b = true ∧ c = 128 then none else if c ≥ 128 then scan m false (n * 128 + c % 128) (i + 1) l else some (n * 128 + c % 128, i + 1)
theorem scan_cons (m : Nat) (b : Bool) (n : Int) (i : Nat) (c : Int) (l : List Int) : scan (m + 1) b n i (c :: l) = if b = true ∧ c = 128 then none else if c ≥ 128 then scan m false (n * 128 + c % 128) (i + 1) l else some (n * 128 + c % 128, i + 1) := rfl
def rdNum (l : List Int) : Option (Int × Nat) := scan 6 true 0 0 l
/-- What the program tells, and the document. -/
def own (o : Option (Int × Nat)) (most : Int) : Int × Int := match o with | none => (0, 0) | some (n, s) => if n > most then (0, 0) else (n, (s : Int))
def refOf (o : Option (Int × Nat)) (most : Int) : Int × Int × Bool := match o with | none => (0, 0, false) | some (n, s) => (n, (s : Int), decide (n ≤ most))

theorem scan_take : ∀ (m : Nat) (b : Bool) (n : Int) (i : Nat) (l : List Int), scan m b n i (l.take m) = scan m b n i l
  | 0, b, n, i, l => rfl
  | m + 1, b, n, i, [] => by simp
  | m + 1, b, n, i, c :: l => by simp only [List.take_succ_cons, scan, scan_take m false]
theorem pow_small (i : Nat) (h : i ≤ 6) : (128 : Int) ^ i ≤ 4398046511104 := by
  have : ∀ i : Fin 7, (128 : Int) ^ i.val ≤ 4398046511104 := by decide
  exact this ⟨i, by omega⟩
theorem own_loop (xs : List Int) (hx : xs.length ≤ 6) (hb : Bytes xs) (most : Int) : ∀ (m i : Nat) (n : Int) (pre rest : List Int), xs = pre ++ rest → pre.length = i → i + m = 6 → 0 ≤ n → n < 128 ^ i →
    Ev (fun k => bytes_number.l0 k most n xs (xs.length : Int) (i : Int)) (own (scan m (i == 0) n i rest) most)
  | m, i, n, pre, [], h, hi, hm, h0, h1 => by
    have hs : scan m (i == 0) n i [] = none := by cases m <;> rfl
    rw [hs]
    have : xs.length = i := by rw [h]; simp [hi]
    refine Ev.step (f := fun _ => some (0, 0)) (fun k => ?_) (Ev.now _)
    simp only [bytes_number.l0]
    rw [if_neg (by omega)]
  | 0, i, n, pre, c :: rest, h, hi, hm, h0, h1 => by
    have : xs.length = i + (rest.length + 1) := by rw [h]; simp [hi]
    omega
  | m + 1, i, n, pre, c :: rest, h, hi, hm, h0, h1 => by
    have hl : xs.length = i + (rest.length + 1) := by rw [h]; simp [hi]
    have hc : rd xs (i : Int) = c := by rw [rd_nat, h, ← hi]; simp
    have hcb := hb c (by rw [h]; simp)
    have hp := pow_small i (by omega)
    have hcw : wrap64 c = c := w64 (by omega) (by omega)
    have hmod : Int.tmod c 128 = c % 128 := Int.tmod_eq_emod_of_nonneg (by omega)
    have hv : wrap64 (wrap64 (n * 128) + Int.tmod (wrap64 c) 128) = n * 128 + c % 128 := by rw [hcw, hmod, w64 (n := n * 128) (by omega) (by omega), w64 (by omega) (by omega)]
    refine Ev.step (f := fun k => bytes_number.j1 k most n (i : Int) c xs (xs.length : Int) (i : Int) (decide (i = 0 ∧ c = 128))) (fun k => ?_) ?_
    · simp only [bytes_number.l0]
      rw [if_pos (by omega), if_pos (by omega), if_pos (by omega), hc]
      by_cases hz : i = 0
      · rw [if_pos (by omega)]
        congr 1
        by_cases hh : c = 128 <;> simp [hz, hh]
      · rw [if_neg (by omega)]
        congr 1
        simp [hz]
    · unfold scan
      by_cases hq : i = 0 ∧ c = 128
      · rw [if_pos (by simpa using hq), decide_eq_true hq]
        refine Ev.step (f := fun _ => some (0, 0)) (fun k => ?_) (Ev.now _)
        simp only [bytes_number.j1]
        rw [if_pos trivial]
      · rw [if_neg (by simpa using hq), decide_eq_false hq]
        by_cases hg : c ≥ 128
        · rw [if_pos hg]
          have ih := own_loop xs hx hb most m (i + 1) (n * 128 + c % 128) (pre ++ [c]) rest (by simp [h]) (by simp [hi]) (by omega) (by omega) (by rw [Int.pow_succ]; omega)
          have e : ((i + 1 : Nat) == 0) = false := by simp
          rw [e] at ih
          refine Ev.step (fun k => ?_) ih
          simp only [bytes_number.j1]
          rw [if_neg (by simp), if_pos hg, hv, w64 (by omega) (by omega)]
          rfl
        · rw [if_neg hg]
          refine Ev.step (f := fun _ => some (own (some (n * 128 + c % 128, i + 1)) most)) (fun k => ?_) (Ev.now _)
          simp only [bytes_number.j1]
          rw [if_neg (by simp), if_neg hg, hv, w64 (n := (i : Int) + 1) (by omega) (by omega)]
          unfold own
          by_cases hm2 : n * 128 + c % 128 > most
          · rw [if_pos hm2]; simp only [if_pos hm2]
          · rw [if_neg hm2]; simp only [if_neg hm2]; rfl
theorem own_ev (l : List Int) (hl : l.length ≤ 1000000) (hb : Bytes l) (most : Int) : Ev (fun k => bytes_number.f k l most) (own (rdNum l) most) := by
  have hmn : mn (l.length : Int) 6 = ((min l.length 6 : Nat) : Int) := by unfold mn; split <;> omega
  have ht : l.take (min l.length 6) = l.take 6 := by
    by_cases h : l.length ≤ 6
    · rw [Nat.min_eq_left h, List.take_length, List.take_of_length_le h]
    · rw [Nat.min_eq_right (by omega)]
  have := own_loop (l.take 6) (by rw [List.length_take]; omega) (hb.take 6) most 6 0 0 [] (l.take 6) rfl rfl rfl (Int.le_refl _) (by decide)
  rw [show ((0 : Nat) == 0) = true from rfl, scan_take] at this
  refine Ev.congr (fun k => ?_) this
  unfold bytes_number.f
  rw [hmn, if_pos (by omega), if_pos (by omega), Int.toNat_natCast, ht]
  rfl
theorem ref_loop (l : List Int) (hl : l.length ≤ 1000000) (hb : Bytes l) (most e : Int) : ∀ (m i : Nat) (n : Int) (pre rest : List Int), l = pre ++ rest → pre.length = i → i + m = 6 → 0 ≤ n → n < 128 ^ i →
    Ev (fun k => potsherdref3_Reader_number.l0 k most n (i : Int) l e) ((refOf (scan m (i == 0) n i rest) most).1, (refOf (scan m (i == 0) n i rest) most).2.1, (refOf (scan m (i == 0) n i rest) most).2.2, e)
  | 0, i, n, pre, rest, h, hi, hm, h0, h1 => by
    refine Ev.step (f := fun _ => some (0, 0, false, e)) (fun k => ?_) (Ev.now _)
    simp only [potsherdref3_Reader_number.l0]
    rw [if_neg (by omega)]
  | m + 1, i, n, pre, [], h, hi, hm, h0, h1 => by
    have : l.length = i := by rw [h]; simp [hi]
    refine Ev.step (f := fun k => potsherdref3_Reader_number.j1 k most n i i true l e) (fun k => ?_) (Ev.step (f := fun _ => some (0, 0, false, e)) (fun k => ?_) (Ev.now _))
    · simp only [potsherdref3_Reader_number.l0]
      rw [if_pos (by omega), if_pos (by omega)]
    · simp only [potsherdref3_Reader_number.j1]
      rw [if_pos trivial]
  | m + 1, i, n, pre, c :: rest, h, hi, hm, h0, h1 => by
    have hln : l.length = i + (rest.length + 1) := by rw [h]; simp [hi]
    have hc : rd l (i : Int) = c := by rw [rd_nat, h, ← hi]; simp
    have hcb := hb c (by rw [h]; simp)
    have hp := pow_small i (by omega)
    have hcw : wrap64 c = c := w64 (by omega) (by omega)
    have hv : Go.bits .or .i64 (wrap64 (n * 128)) (Go.bits .and .i64 (wrap64 c) 127) = n * 128 + c % 128 := by
      rw [hcw, w64 (n := n * 128) (by omega) (by omega), and127 c (by omega) (by omega), or_low n _ h0 (by omega) (by omega) (by omega)]
    refine Ev.step (f := fun k => potsherdref3_Reader_number.j1 k most n (i : Int) (i : Int) (decide (i = 0 ∧ c = 128)) l e) (fun k => ?_) ?_
    · simp only [potsherdref3_Reader_number.l0]
      rw [if_pos (by omega), if_neg (by omega)]
      by_cases hz : i = 0
      · subst hz
        have hc0 : rd l 0 = c := hc
        rw [if_pos (by omega), if_pos (by omega), hc0]
        congr 1
        by_cases hh : c = 128 <;> simp [hh]
      · rw [if_neg (by omega)]
        congr 1
        simp [hz]
    · unfold scan
      by_cases hq : i = 0 ∧ c = 128
      · rw [if_pos (by simpa using hq), decide_eq_true hq]
        refine Ev.step (f := fun _ => some (0, 0, false, e)) (fun k => ?_) (Ev.now _)
        simp only [potsherdref3_Reader_number.j1]
        rw [if_pos trivial]
      · rw [if_neg (by simpa using hq), decide_eq_false hq]
        by_cases hg : c ≥ 128
        · rw [if_pos hg]
          have ih := ref_loop l hl hb most e m (i + 1) (n * 128 + c % 128) (pre ++ [c]) rest (by simp [h]) (by simp [hi]) (by omega) (by omega) (by rw [Int.pow_succ]; omega)
          have e : ((i + 1 : Nat) == 0) = false := by simp
          rw [e] at ih
          refine Ev.step (fun k => ?_) ih
          simp only [potsherdref3_Reader_number.j1]
          rw [if_neg (by simp), if_pos (by omega), if_pos (by omega), hc, if_neg (by omega), hv, w64 (by omega) (by omega)]
          rfl
        · rw [if_neg hg]
          refine Ev.step (f := fun _ => some (n * 128 + c % 128, ((i + 1 : Nat) : Int), decide (n * 128 + c % 128 ≤ most), e)) (fun k => ?_) (Ev.now _)
          simp only [potsherdref3_Reader_number.j1]
          rw [if_neg (by simp), if_pos (by omega), if_pos (by omega), hc, if_pos (by omega), hv, w64 (n := (i : Int) + 1) (by omega) (by omega)]
          rfl
theorem ref_ev (l : List Int) (hl : l.length ≤ 1000000) (hb : Bytes l) (most e : Int) : Ev (fun k => potsherdref3_Reader_number.f k l e most) ((refOf (rdNum l) most).1, (refOf (rdNum l) most).2.1, (refOf (rdNum l) most).2.2, e) :=
  ref_loop l hl hb most e 6 0 0 [] l rfl rfl rfl (Int.le_refl _) (by decide)

/-! ### what is written is read -/
theorem scan_front : ∀ (d n : Nat), n < 128 ^ d → ∀ (m : Nat) (rest : List Int), scan (m + (front n).length) true 0 0 (front n ++ rest) = if n = 0 then scan m true 0 0 rest else scan m false n (front n).length rest
  | 0, n, h, m, rest => by
    have : n = 0 := by simpa using h
    subst this
    rw [front_zero, if_pos rfl]; rfl
  | d + 1, n, h, m, rest => by
    by_cases hz : n = 0
    · subst hz
      rw [front_zero, if_pos rfl]; rfl
    · have ih := scan_front d (n / 128) (by rw [Nat.pow_succ] at h; omega) (m + 1) ((((n % 128 : Nat) : Int) + 128) :: rest)
      rw [if_neg hz, front_pos n hz, List.append_assoc, List.singleton_append, List.length_append, List.length_singleton, show m + ((front (n / 128)).length + 1) = m + 1 + (front (n / 128)).length by omega, ih]
      by_cases hq : n / 128 = 0
      · rw [if_pos hq, hq, front_zero]
        have e1 : (0 : Int) * 128 + (((n % 128 : Nat) : Int) + 128) % 128 = (n : Int) := by omega
        rw [scan_cons, if_neg (by omega), if_pos (by omega), e1]
        rfl
      · have e1 : ((n / 128 : Nat) : Int) * 128 + (((n % 128 : Nat) : Int) + 128) % 128 = (n : Int) := by omega
        rw [if_neg hq, scan_cons, if_neg (by simp), if_pos (by omega), e1]
theorem rdNum_code (n : Nat) (h : n ≤ 1099511627776) (rest : List Int) : rdNum (code n ++ rest) = some ((n : Int), (code n).length) := by
  have hf := front_len 5 (n / 128) (by omega)
  have hs := scan_front 5 (n / 128) (by omega) (6 - (front (n / 128)).length - 1 + 1) (((n % 128 : Nat) : Int) :: rest)
  unfold rdNum code
  rw [List.append_assoc, List.singleton_append, List.length_append, List.length_singleton, show 6 = 6 - (front (n / 128)).length - 1 + 1 + (front (n / 128)).length by omega, hs]
  by_cases hq : n / 128 = 0
  · rw [if_pos hq, hq, front_zero]
    unfold scan
    rw [if_neg (by omega), if_neg (by omega)]
    congr 2
    omega
  · rw [if_neg hq]
    unfold scan
    rw [if_neg (by simp), if_neg (by omega)]
    congr 2
    omega
/-! ### what is read was so written -/
theorem scan_inv : ∀ (m q : Nat) (l : List Int) (v : Int) (s : Nat), q ≠ 0 → Bytes l → scan m false q (front q).length l = some (v, s) →
    ∃ n : Nat, v = n ∧ code n = front q ++ l.take (s - (front q).length) ∧ s = (code n).length ∧ (front q).length < s ∧ s - (front q).length ≤ l.length
  | 0, q, l, v, s, hq, hb, h => by simp [scan] at h
  | m + 1, q, [], v, s, hq, hb, h => by simp [scan] at h
  | m + 1, q, c :: l, v, s, hq, hb, h => by
    obtain ⟨⟨c0, c1⟩, hbl⟩ := hb.cons
    unfold scan at h
    rw [if_neg (by simp)] at h
    by_cases hg : c ≥ 128
    · rw [if_pos hg] at h
      have hf : front (q * 128 + (c % 128).toNat) = front q ++ [c] := by
        rw [front_pos _ (by omega), show (q * 128 + (c % 128).toNat) / 128 = q by omega]
        congr 2
        omega
      have hfl : (front (q * 128 + (c % 128).toNat)).length = (front q).length + 1 := by rw [hf]; simp
      rw [show (q : Int) * 128 + c % 128 = ((q * 128 + (c % 128).toNat : Nat) : Int) by omega, ← hfl] at h
      obtain ⟨n, e1, e2, e3, e4, e5⟩ := scan_inv m (q * 128 + (c % 128).toNat) l v s (by omega) hbl h
      rw [hfl] at e2 e4 e5
      refine ⟨n, e1, ?_, e3, by omega, by simp; omega⟩
      rw [e2, hf, show s - (front q).length = (s - ((front q).length + 1)) + 1 by omega, List.take_succ_cons]
      simp
    · rw [if_neg hg] at h
      simp only [Option.some.injEq, Prod.mk.injEq] at h
      obtain ⟨rfl, rfl⟩ := h
      refine ⟨q * 128 + c.toNat, by omega, ?_, ?_, by omega, by simp⟩
      · unfold code
        rw [show (q * 128 + c.toNat) / 128 = q by omega, show (front q).length + 1 - (front q).length = 1 by omega, List.take_succ_cons, List.take_zero]
        congr 2
        omega
      · unfold code
        rw [show (q * 128 + c.toNat) / 128 = q by omega]
        simp
theorem rdNum_inv {l : List Int} {v : Int} {s : Nat} (hb : Bytes l) (h : rdNum l = some (v, s)) : ∃ n : Nat, v = n ∧ code n = l.take s ∧ s = (code n).length ∧ s ≤ l.length ∧ 0 < s := by
  cases l with
  | nil => simp [rdNum, scan] at h
  | cons c l =>
    obtain ⟨⟨c0, c1⟩, hbl⟩ := hb.cons
    unfold rdNum scan at h
    by_cases hq : c = 128
    · rw [if_pos ⟨rfl, hq⟩] at h; cases h
    · rw [if_neg (by simpa using hq)] at h
      by_cases hg : c ≥ 128
      · rw [if_pos hg] at h
        have hf : front (c % 128).toNat = [c] := by
          rw [front_pos _ (by omega), show (c % 128).toNat / 128 = 0 by omega, front_zero]
          simp only [List.nil_append, List.cons.injEq, and_true]
          omega
        have hfl : (front (c % 128).toNat).length = 0 + 1 := by rw [hf]; rfl
        rw [show (0 : Int) * 128 + c % 128 = (((c % 128).toNat : Nat) : Int) by omega, ← hfl] at h
        obtain ⟨n, e1, e2, e3, e4, e5⟩ := scan_inv 5 (c % 128).toNat l v s (by omega) hbl h
        rw [hfl] at e2 e4 e5
        refine ⟨n, e1, ?_, e3, by simp; omega, by omega⟩
        rw [e2, hf, show s = (s - (0 + 1)) + 1 by omega, List.take_succ_cons]
        simp
      · rw [if_neg hg] at h
        simp only [Option.some.injEq, Prod.mk.injEq] at h
        obtain ⟨rfl, rfl⟩ := h
        refine ⟨c.toNat, by omega, ?_, ?_, by simp, by omega⟩
        · unfold code
          rw [show c.toNat / 128 = 0 by omega, front_zero]
          simp only [List.nil_append, List.take_succ_cons, List.take_zero, List.cons.injEq, and_true]
          omega
        · unfold code
          rw [show c.toNat / 128 = 0 by omega, front_zero]
          rfl
theorem own_size {l : List Int} (hb : Bytes l) (most : Int) : 0 ≤ (own (rdNum l) most).2 ∧ (own (rdNum l) most).2 ≤ l.length ∧ 0 ≤ (own (rdNum l) most).1 ∧ ((own (rdNum l) most).2 = 0 → (own (rdNum l) most).1 = 0) := by
  cases h : rdNum l with
  | none => simp [own]
  | some p =>
    obtain ⟨v, s⟩ := p
    obtain ⟨n, rfl, _, _, h1, h2⟩ := rdNum_inv hb h
    unfold own
    by_cases hm : (n : Int) > most
    · simp only [if_pos hm]; simp
    · simp only [if_neg hm]
      refine ⟨by omega, by omega, by omega, by omega⟩
end Go.Proofs.Ytmoefknefopdlaa.Pl2
