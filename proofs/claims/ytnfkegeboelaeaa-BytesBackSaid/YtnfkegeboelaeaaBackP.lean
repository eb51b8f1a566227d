import Derived.Test.YtnfkegeboelaeaaAw
import Derived.Test.YtnfkegeboelaeaaSt
import Derived.Test.YtnfkegeboelaeaaBounds
import Derived.Deep.RegionWith
import Derived.Deep.DeepCutAuto
import Derived.Deep.QuietTactic
import Derived.BigQuiet
import Derived.Deep.RegionHeld3
set_option linter.unusedVariables false
set_option linter.unusedSimpArgs false
/-! BytesBack: the bytes that are written, in plain words. -/
namespace Go.Proofs.Ytnfkegeboelaeaa.Back
open Go.RowKit Go.Proofs.YtnfkegeboelaeaaW.PrintWords Go.Proofs.YtnfkegeboelaeaaW.PrintLast Go.Proofs.YtnfkegeboelaeaaW.PrintMore Go.Proofs.Ytnfkegeboelaeaa.PAll Go.Proofs.Ytnfkegeboelaeaa.Rdr Go.Proofs.Ytnfkegeboelaeaa.Aw Go.Proofs.Ytnfkegeboelaeaa.St Go.Proofs.Ytnfkegeboelaeaa.Pl1 Go.Proofs.Ytnfkegeboelaeaa.Pl2 Go.Proofs.Ytnfkegeboelaeaa.Bounds
attribute [local go_sem] max2_int min2_int max_two min_two max_three min_three max_four min_four

theorem info3 : (Try.prog.info? 3).map (fun i => (i.zero, i.size, i.bytes)) = some (some (.int .i64 0), 1, 8) := by kernel_rfl
/-- A number held to what may be written. -/
def red (x : Int) : Nat := (Int.tmod (IntKind.u64.wrap x) 1099511627777).toNat
theorem red_eq (x : Int) : wrap64 (Int.tmod (IntKind.u64.wrap x) 1099511627777) = ((red x : Nat) : Int) ∧ red x ≤ 1099511627776 := by
  obtain ⟨n, h1, h2⟩ := small x 1099511627777 (by decide) (by decide)
  have h0 : 0 ≤ IntKind.u64.wrap x := by
    rw [IntKind.wrap_u64]
    exact Int.emod_nonneg _ (by decide)
  have t0 : 0 ≤ Int.tmod (IntKind.u64.wrap x) 1099511627777 := Int.tmod_nonneg _ h0
  have t1 : Int.tmod (IntKind.u64.wrap x) 1099511627777 < 1099511627777 := Int.tmod_lt_of_pos _ (by decide)
  unfold red
  exact ⟨by rw [w64 (by omega) (by omega)]; omega, by omega⟩
/-- The numbers' bytes; the texts'. -/
def nums : List Nat → List Int
  | [] => []
  | x :: l => code x ++ nums l
def texts : List (List Int) → List Int
  | [] => []
  | t :: l => code t.length ++ t ++ texts l
def wants (n : List Int) : List Nat := n.map red
def ints (l : List Nat) : List Int := l.map Int.ofNat
theorem nums_append : ∀ a b : List Nat, nums (a ++ b) = nums a ++ nums b
  | [], b => rfl
  | x :: a, b => by simp only [List.cons_append, nums, nums_append a b, List.append_assoc]
theorem texts_append : ∀ a b : List (List Int), texts (a ++ b) = texts a ++ texts b
  | [], b => rfl
  | x :: a, b => by simp only [List.cons_append, texts, texts_append a b, List.append_assoc]
theorem nums_take (l : List Nat) (j : Nat) (h : j < l.length) : nums (l.take (j + 1)) = nums (l.take j) ++ code (l.getD j 0) := by
  rw [List.take_succ_eq_append_getElem h, nums_append, List.getD_eq_getElem?_getD, List.getElem?_eq_getElem h]
  simp [nums]
theorem texts_take (l : List (List Int)) (j : Nat) (h : j < l.length) : texts (l.take (j + 1)) = texts (l.take j) ++ (code (l.getD j []).length ++ l.getD j []) := by
  rw [List.take_succ_eq_append_getElem h, texts_append, List.getD_eq_getElem?_getD, List.getElem?_eq_getElem h]
  simp [texts]
theorem nums_drop (l : List Nat) (j : Nat) (h : j < l.length) : nums (l.drop j) = code (l.getD j 0) ++ nums (l.drop (j + 1)) := by
  rw [List.drop_eq_getElem_cons h, nums, List.getD_eq_getElem?_getD, List.getElem?_eq_getElem h]
  rfl
theorem texts_drop (l : List (List Int)) (j : Nat) (h : j < l.length) : texts (l.drop j) = code (l.getD j []).length ++ l.getD j [] ++ texts (l.drop (j + 1)) := by
  rw [List.drop_eq_getElem_cons h, texts, List.getD_eq_getElem?_getD, List.getElem?_eq_getElem h]
  rfl
theorem nums_len : ∀ l : List Nat, (∀ x ∈ l, x ≤ 1099511627776) → (nums l).length ≤ 6 * l.length
  | [], _ => by simp [nums]
  | x :: l, h => by
    have h1 := nums_len l (fun y hy => h y (by simp [hy]))
    have h2 := (code_len x (h x (by simp))).1
    simp only [nums, List.length_append, List.length_cons]
    omega
theorem texts_len : ∀ l : List (List Int), (∀ t ∈ l, t.length ≤ 300) → (texts l).length ≤ 306 * l.length
  | [], _ => by simp [texts]
  | t :: l, h => by
    have h1 := texts_len l (fun y hy => h y (by simp [hy]))
    have h3 := h t (by simp)
    have h2 := (code_len t.length (by omega)).1
    simp only [texts, List.length_append, List.length_cons]
    omega
theorem wants_small (n : List Int) : ∀ x ∈ wants n, x ≤ 1099511627776 := fun x hx => by
  obtain ⟨y, _, rfl⟩ := List.mem_map.1 hx
  exact (red_eq y).2
theorem numberC (A0 : Option Addr) (c0 : Nat) (l0 : List Int) (n : Nat) (w : World) (hl : l0.length ≤ 100000) (hn : n ≤ 1099511627776) (hr0 : Kd.C (Kd.int .u8) w A0 l0.length l0) (hc0 : l0.length ≤ c0) :
    Calls Try.prog 10 #[.slice A0 l0.length c0, .int .i64 (n : Int)] w fun e w' => ∃ A c, e = .returned (.slice A (l0 ++ code n).length c) ∧ (l0 ++ code n).length ≤ c ∧ Kd.C (Kd.int .u8) w' A (l0 ++ code n).length (l0 ++ code n) ∧ Below w.heap.size w w' := by
  obtain ⟨k, h⟩ := (number_ev l0 hl (n : Int)).rounds
  rw [clamp_of n hn] at h
  refine (bytes_Number.calls k (fun k_ => k_ < w.heap.size) A0 c0 l0 n _ w (Kd.V_mk hc0 (Kd.C_F (Kd.heap_int .u8) hr0)) h).mono ?_
  rintro e w' ⟨v, rfl, hR, hb⟩
  obtain ⟨A, c, rfl, h1, h2⟩ := Kd.R_reads hR
  exact ⟨A, c, rfl, h1, h2, hb⟩
theorem numberR (A0 : Option Addr) (c0 : Nat) (l0 : List Int) (n : Nat) (w : World) (hl : l0.length ≤ 100000) (hn : n ≤ 1099511627776) (hr0 : Kd.C (Kd.int .u8) w A0 l0.length l0) (hc0 : l0.length ≤ c0) :
    Calls Try.prog 10 #[.slice A0 l0.length c0, .int .i64 (n : Int)] w fun e w' => ∃ v : Value, e = .returned v ∧ Kd.R (Kd.int .u8) 5 w' w.heap.size (fun k_ => w.heap.size ≤ k_) v (l0 ++ code n) ∧ Below w.heap.size w w' := by
  obtain ⟨k, h⟩ := (number_ev l0 hl (n : Int)).rounds
  rw [clamp_of n hn] at h
  exact bytes_Number.calls k (fun k_ => k_ < w.heap.size) A0 c0 l0 n _ w (Kd.V_mk hc0 (Kd.C_F (Kd.heap_int .u8) hr0)) h
theorem textC' (A0 : Option Addr) (c0 : Nat) (l0 : List Int) (A1 : Option Addr) (c1 : Nat) (t : List Int) (w : World) (hl : l0.length ≤ 100000) (ht : t.length ≤ 1000) (hr0 : Kd.C (Kd.int .u8) w A0 l0.length l0) (hc0 : l0.length ≤ c0) (hr1 : Kd.C (Kd.int .u8) w A1 t.length t) (hc1 : t.length ≤ c1) :
    Calls Try.prog 12 #[.slice A0 l0.length c0, .slice A1 t.length c1] w fun e w' => ∃ A c, e = .returned (.slice A (l0 ++ (code t.length ++ t)).length c) ∧ (l0 ++ (code t.length ++ t)).length ≤ c ∧ Kd.C (Kd.int .u8) w' A (l0 ++ (code t.length ++ t)).length (l0 ++ (code t.length ++ t)) ∧ Below w.heap.size w w' := by
  obtain ⟨k, h⟩ := (text_ev l0 t hl ht).rounds
  rw [List.append_assoc] at h
  exact textC k A0 c0 l0 A1 c1 t _ w hr0 hc0 hr1 hc1 h

theorem int_at {w : World} {k : IntKind} {A : Option Addr} {n : Nat} {xs : List Int} (h : (Kd.int k).C w A n xs) (j : Nat) (hj : j < n) : ∃ ad, A = some ad ∧ w.cell? (ad.add j) = some (.int k (xs.getD j 0)) := by
  obtain ⟨ad, c, e, _, hK, hc⟩ := Kd.C_get h 0 (j : Int) (by omega) (by omega)
  have hk : c = [.int k (xs.getD j 0)] := hK
  refine ⟨ad, e, ?_⟩
  have hz := hc 0 (.int k (xs.getD j 0)) (by rw [hk]; rfl)
  simpa [Kd.int, Kd.scalar] using hz
theorem ints_take (n : List Int) (j : Nat) (h : j < n.length) : ints ((wants n).take (j + 1)) = ints ((wants n).take j) ++ [((red (n.getD j 0) : Nat) : Int)] := by
  have hl : j < (wants n).length := by simpa [wants] using h
  rw [List.take_succ_eq_append_getElem hl]
  simp [ints, wants, List.getD_eq_getElem?_getD, List.getElem?_eq_getElem h]
theorem wants_get (n : List Int) (j : Nat) (h : j < n.length) : (wants n).getD j 0 = red (n.getD j 0) := by
  simp [wants, List.getD_eq_getElem?_getD, List.getElem?_eq_getElem h]
theorem num_code (x : Nat) (h : x ≤ 1099511627776) (D : List Int) : numStep (code x ++ D) 0 1099511627776 = ((x : Int), D, 0) := by
  unfold numStep
  rw [if_pos rfl, rdNum_code x h D]
  simp only [if_neg (show ¬ ((x : Int) > 1099511627776) by omega)]
  simp
theorem text_code (t D : List Int) (h : t.length ≤ 300) : textStep (code t.length ++ t ++ D) 0 300 = (t, D, 0) := by
  unfold textStep
  rw [if_pos rfl, List.append_assoc, rdNum_code t.length (by omega) (t ++ D)]
  have e1 : ((code t.length).length + (t.length : Int) : Int).toNat = (code t.length).length + t.length := by omega
  simp only [if_neg (show ¬ ((t.length : Int) > 300 ∨ (t.length : Int) > ((code t.length ++ (t ++ D)).length : Int) - ((code t.length).length : Int)) by simp; omega), e1]
  have e2 : code t.length ++ (t ++ D) = (code t.length ++ t) ++ D := by simp
  rw [e2]
  have e3 : (code t.length).length + t.length = (code t.length ++ t).length := by simp
  rw [e3, List.take_left, List.drop_left, List.drop_left]
theorem nums_bytes : ∀ l : List Nat, (∀ x ∈ l, x ≤ 1099511627776) → Bytes (nums l)
  | [], _ => fun x hx => by cases hx
  | x :: l, h => (code_bytes x (h x (by simp))).append (nums_bytes l (fun y hy => h y (by simp [hy])))
theorem texts_bytes : ∀ l : List (List Int), (∀ t ∈ l, t.length ≤ 300 ∧ Bytes t) → Bytes (texts l)
  | [], _ => fun x hx => by cases hx
  | t :: l, h => ((code_bytes t.length (by have := (h t (by simp)).1; omega)).append (h t (by simp)).2).append (texts_bytes l (fun y hy => h y (by simp [hy])))

theorem sums {D D' B lo kx : Nat} (hln : D = kx + D') (hlB : B = lo + D) (hcl : kx ≤ 6 ∧ 1 ≤ kx) (hB : B ≤ 1000000) :
    wrap64 ((D : Int) - (D' : Int)) = (kx : Int) ∧ wrap64 ((B : Int) - (D : Int)) = (lo : Int) ∧ wrap64 ((lo : Int) + (kx : Int)) = ((lo + kx : Nat) : Int) ∧ ¬ ((kx : Int) < 1) ∧ ¬ ((kx : Int) > 6) ∧ ¬ ((D : Int) > (B : Int)) ∧ ¬ ((D : Int) < (kx : Int)) ∧ (lo : Int) ≤ ((lo + kx : Nat) : Int) ∧ ((lo + kx : Nat) : Int) ≤ (B : Int) := by
  refine ⟨?_, ?_, ?_, by omega, by omega, by omega, by omega, by omega, by omega⟩ <;> unfold wrap64 <;> omega

theorem sums2 {D D' B lo kx : Nat} (hln : D = kx + D') (hlB : B = lo + D) (hcl : kx ≤ 6 ∧ 1 ≤ kx) (hB : B ≤ 1000000) :
    wrap64 ((lo : Int) + (kx : Int)) = (lo : Int) + (kx : Int) ∧ IntKind.i64.wrap ((lo : Int) + (kx : Int)) = (lo : Int) + (kx : Int) ∧ IntKind.i64.wrap ((B : Int) - (D : Int)) = (lo : Int) ∧
    decide ((kx : Int) < 1) = false ∧ decide ((6 : Int) < (kx : Int)) = false ∧ decide ((B : Int) < (D : Int)) = false ∧ decide ((D : Int) < (kx : Int)) = false ∧
    decide (B < D) = false ∧ decide (D < kx) = false ∧ decide (kx < 1) = false ∧ decide (6 < kx) = false := by
  refine ⟨?_, ?_, ?_, decide_eq_false (by omega), decide_eq_false (by omega), decide_eq_false (by omega), decide_eq_false (by omega), decide_eq_false (by omega), decide_eq_false (by omega), decide_eq_false (by omega), decide_eq_false (by omega)⟩
  · unfold wrap64; omega
  · rw [IntKind.wrap_i64]; omega
  · rw [IntKind.wrap_i64]; omega

/-! ### cut short -/
theorem high_none : ∀ (l : List Int) (m : Nat) (b : Bool) (n : Int) (i : Nat), (∀ c ∈ l, c ≥ 128) → scan m b n i l = none
  | [], m, b, n, i, _ => by cases m <;> rfl
  | c :: l, 0, b, n, i, _ => rfl
  | c :: l, m + 1, b, n, i, h => by
    rw [scan_cons]
    split
    · rfl
    · rw [if_pos (h c (by simp))]
      exact high_none l m false _ _ (fun x hx => h x (by simp [hx]))
theorem front_high : ∀ (d n : Nat), n < 128 ^ d → ∀ c ∈ front n, c ≥ 128
  | 0, n, h => by
    have : n = 0 := by simpa using h
    subst this
    rw [front_zero]
    exact fun x hx => by cases hx
  | d + 1, n, h => by
    by_cases hz : n = 0
    · subst hz; rw [front_zero]; exact fun x hx => by cases hx
    · rw [front_pos n hz]
      intro c hc
      rcases List.mem_append.1 hc with h1 | h1
      · exact front_high d (n / 128) (by rw [Nat.pow_succ] at h; omega) c h1
      · rw [List.mem_singleton] at h1; omega
theorem pfx_code (x : Nat) (hx : x ≤ 1099511627776) (D' l Q : List Int) (hQ : Q ≠ []) (h : l ++ Q = code x ++ D') : rdNum l = none ∨ ∃ l', l = code x ++ l' ∧ l' ++ Q = D' := by
  rcases List.append_eq_append_iff.1 h with ⟨a, h1, h2⟩ | ⟨c, h1, h2⟩
  · rcases List.eq_nil_or_concat a with ha | ⟨a', y, ha⟩
    · subst ha
      exact .inr ⟨[], by rw [h1]; simp, by rw [h2]; simp⟩
    · left
      have e : code x = (l ++ a') ++ [y] := by rw [h1, ha]; simp
      unfold code at e
      have e2 := (List.append_inj' e rfl).1
      unfold rdNum
      refine high_none l 6 true 0 0 (fun c hc => front_high 6 (x / 128) (by omega) c ?_)
      rw [e2]
      exact List.mem_append.2 (.inl hc)
  · exact .inr ⟨c, h1, h2.symm⟩
/-- A reader that is cut short: an error, or what is left is cut short. -/
def Short (l : List Int) (e : Int) (D : List Int) : Prop := e = 5 ∨ (e = 0 ∧ ∃ Q, Q ≠ [] ∧ l ++ Q = D)
theorem short_num (x : Nat) (hx : x ≤ 1099511627776) (D' l : List Int) (e : Int) (h : Short l e (code x ++ D')) {v e' : Int} {l' : List Int} (hst : numStep l e 1099511627776 = (v, l', e')) : Short l' e' D' := by
  rcases h with rfl | ⟨rfl, Q, hQ, h⟩
  · unfold numStep at hst
    rw [if_neg (by decide)] at hst
    simp only [Prod.mk.injEq] at hst
    exact .inl hst.2.2.symm
  · rcases pfx_code x hx D' l Q hQ h with hn | ⟨l1, h1, h2⟩
    · unfold numStep at hst
      rw [if_pos rfl, hn] at hst
      simp only [Prod.mk.injEq] at hst
      exact .inl hst.2.2.symm
    · rw [h1, num_code x hx] at hst
      simp only [Prod.mk.injEq] at hst
      obtain ⟨-, rfl, rfl⟩ := hst
      exact .inr ⟨rfl, Q, hQ, h2⟩
theorem short_text (t D' l : List Int) (ht : t.length ≤ 300) (e : Int) (h : Short l e (code t.length ++ t ++ D')) {v : List Int} {e' : Int} {l' : List Int} (hst : textStep l e 300 = (v, l', e')) : Short l' e' D' := by
  rcases h with rfl | ⟨rfl, Q, hQ, h⟩
  · unfold textStep at hst
    rw [if_neg (by decide)] at hst
    simp only [Prod.mk.injEq] at hst
    exact .inl hst.2.2.symm
  · rw [List.append_assoc] at h
    rcases pfx_code t.length (by omega) (t ++ D') l Q hQ h with hn | ⟨l1, h1, h2⟩
    · unfold textStep at hst
      rw [if_pos rfl, hn] at hst
      simp only [Prod.mk.injEq] at hst
      exact .inl hst.2.2.symm
    · have key : (∃ c, l1 = t ++ c ∧ c ++ Q = D') ∨ l1.length < t.length := by
        rcases List.append_eq_append_iff.1 h2 with ⟨a, h3, h4⟩ | ⟨c, h3, h4⟩
        · cases a with
          | nil => exact .inl ⟨[], by rw [h3]; simp, by rw [h4]; simp⟩
          | cons y a => right; rw [h3]; simp
        · exact .inl ⟨c, h3, h4.symm⟩
      rcases key with ⟨c, h3, h4⟩ | h3
      · rw [h1, h3, ← List.append_assoc, text_code t c ht] at hst
        simp only [Prod.mk.injEq] at hst
        obtain ⟨-, rfl, rfl⟩ := hst
        exact .inr ⟨rfl, Q, hQ, h4⟩
      · unfold textStep at hst
        rw [if_pos rfl, h1, rdNum_code t.length (by omega) l1] at hst
        simp only [if_pos (show ((t.length : Int) > 300 ∨ (t.length : Int) > ((code t.length ++ l1).length : Int) - ((code t.length).length : Int)) by simp; omega)] at hst
        simp only [Prod.mk.injEq] at hst
        exact .inl hst.2.2.symm
theorem meas {j n : Nat} (h : j < n) (hw : wrap64 ((j : Int) + 1) = ((j + 1 : Nat) : Int)) : n - (wrap64 ((j : Int) + 1)).toNat < n - ((j : Int)).toNat := by rw [hw]; omega
theorem meas2 {j n : Nat} (h : j < n) : n - ((j : Int) + 1).toNat < n - ((j : Int)).toNat := by omega
theorem meas3 {j n : Nat} (h : j < n) : n - (((j + 1 : Nat) : Int)).toNat < n - ((j : Int)).toNat := by omega
theorem fine_take {l : List Int} (h : Fine l) (n : Nat) : Fine (l.take n) := ⟨h.1.take n, by rw [List.length_take]; have := h.2; omega⟩
theorem step64 {j n : Nat} (h : j < n) (hn : n ≤ 30) : wrap64 ((j : Int) + 1) = ((j + 1 : Nat) : Int) := by unfold wrap64; omega
theorem fine_texts {B : List Int} {wn : List Nat} {s : List (List Int)} (hB : nums wn ++ texts s = B) (hf : Fine B) (j : Nat) : Fine (texts (s.drop j)) := by
  have h1 : texts s = texts (s.take j) ++ texts (s.drop j) := by rw [← texts_append, List.take_append_drop]
  rw [← hB, h1] at hf
  refine ⟨fun x hx => hf.1 x (by simp [hx]), ?_⟩
  have := hf.2
  simp only [List.length_append] at this
  omega
theorem text_at {s : List (List Int)} {j : Nat} (h : j < s.length) (h3 : (s.getD j []).length ≤ 300) : textStep (texts (s.drop j)) 0 300 = (s.getD j [], texts (s.drop (j + 1)), 0) := by
  rw [texts_drop s j h]
  exact text_code _ _ h3
theorem getD_mem {s : List (List Int)} {j : Nat} (h : j < s.length) : s.getD j [] ∈ s := by
  rw [List.getD_eq_getElem?_getD, List.getElem?_eq_getElem h]
  exact List.getElem_mem h
theorem getN_mem {s : List Nat} {j : Nat} (h : j < s.length) : s.getD j 0 ∈ s := by
  rw [List.getD_eq_getElem?_getD, List.getElem?_eq_getElem h]
  exact List.getElem_mem h
theorem short_start {B : List Int} {q : Nat} (h : q < B.length) : Short (B.take q) 0 B := by
  refine .inr ⟨rfl, B.drop q, ?_, List.take_append_drop q B⟩
  intro e
  have := congrArg List.length e
  rw [List.length_drop] at this
  simp at this
  omega
theorem short_numD {wn : List Nat} {T l : List Int} {e : Int} {j : Nat} (h : j < wn.length) (hs : ∀ x ∈ wn, x ≤ 1099511627776) (hd : Short l e (nums (wn.drop j) ++ T)) {v e' : Int} {l' : List Int} (hst : numStep l e 1099511627776 = (v, l', e')) : Short l' e' (nums (wn.drop (j + 1)) ++ T) := by
  rw [nums_drop wn j h, List.append_assoc] at hd
  exact short_num _ (hs _ (getN_mem h)) _ l e hd hst
theorem short_textD {s : List (List Int)} {l : List Int} {e : Int} {j : Nat} (h : j < s.length) (hs : ∀ t ∈ s, t.length ≤ 300) (hd : Short l e (texts (s.drop j))) {v : List Int} {e' : Int} {l' : List Int} (hst : textStep l e 300 = (v, l', e')) : Short l' e' (texts (s.drop (j + 1))) := by
  rw [texts_drop s j h] at hd
  exact short_text _ _ l (hs _ (getD_mem h)) e hd hst
theorem cut_at (a : Int) (B : Nat) (h : 0 < B) (hB : B ≤ 1000000) : ∃ q : Nat, wrap64 (Int.tmod (IntKind.u64.wrap a) (B : Int)) = (q : Int) ∧ q < B ∧ IntKind.u64.wrap (B : Int) = (B : Int) ∧ ((B : Int) == 0) = false := by
  obtain ⟨q, h1, h2⟩ := small a (B : Int) (by omega) (by omega)
  refine ⟨q, h1, by omega, ?_, ?_⟩
  · rw [IntKind.wrap_u64]; exact Int.emod_eq_of_lt (by omega) (by omega)
  · rw [beq_eq_false_iff_ne]; omega
theorem short_end {l : List Int} {e : Int} (h : Short l e []) : e = 5 := by
  rcases h with rfl | ⟨rfl, Q, hQ, h⟩
  · rfl
  · exact absurd (List.append_eq_nil_iff.1 h).2 hQ
end Go.Proofs.Ytnfkegeboelaeaa.Back
