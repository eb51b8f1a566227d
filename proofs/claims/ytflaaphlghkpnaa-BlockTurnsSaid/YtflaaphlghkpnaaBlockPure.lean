import Derived.Test.YtflaaphlghkpnaaPBlockOnex1
/-! What the functions of the package block come to, in plain words. -/
namespace Go.Proofs.Ytflaaphlghkpnaa.BlockPure
open Go.RowKit Go.Proofs.YtflaaphlghkpnaaW.PrintWords Go.Proofs.YtflaaphlghkpnaaW.PrintLast Go.Proofs.YtflaaphlghkpnaaW.PrintMore Go.Proofs.Ytflaaphlghkpnaa.PBlockOne

theorem w64 {n : Int} (h : -9223372036854775808 ≤ n) (h' : n ≤ 9223372036854775807) : wrap64 n = n := by unfold wrap64; omega
theorem mid (pre rest : List S27) (x : S27) : rd_T27 (pre ++ x :: rest) (pre.length : Int) = x := by simp [rd_T27]
theorem mid_lt (pre rest : List S27) (x : S27) : (pre.length : Int) < ((pre ++ x :: rest).length : Int) := by simp; omega
theorem end_not (pre : List S27) : ¬ (pre.length : Int) < ((pre ++ []).length : Int) := by simp

def isClean (x : S27) : Bool := !x.f0 && x.f1 == 0
theorem clean_eq (x : S27) : block_Clean.f x.f0 x.f1 x.f2 x.f3 = some (isClean x) := by
  unfold block_Clean.f isClean
  cases x.f0 <;> simp

theorem bad_ev (xs : List S27) (hl : xs.length ≤ 1000) : ∀ (rest pre : List S27) (acc : Int), xs = pre ++ rest → 0 ≤ acc → acc ≤ pre.length →
    Ev (fun k => block_Bad.l0 k acc xs (xs.length : Int) (pre.length : Int)) (acc + (rest.countP (·.f0) : Nat))
  | [], pre, acc, h, _, _ => by
    refine Ev.step (f := fun _ => some (acc + (([] : List S27).countP (·.f0) : Nat))) (fun k => ?_) (Ev.now _)
    subst h
    simp only [block_Bad.l0]
    rw [if_neg (end_not pre)]
    simp
  | x :: rest, pre, acc, h, h0, h1 => by
    have hlt : (pre.length : Int) < (xs.length : Int) := by rw [h]; exact mid_lt pre rest x
    have hx : rd_T27 xs (pre.length : Int) = x := by rw [h]; exact mid pre rest x
    have hw : wrap64 ((pre.length : Int) + 1) = ((pre ++ [x]).length : Int) := by rw [w64 (by omega) (by omega)]; simp
    cases hb : x.f0 with
    | true =>
      have e : acc + ((x :: rest).countP (·.f0) : Nat) = (acc + 1) + (rest.countP (·.f0) : Nat) := by simp [hb]; omega
      rw [e]
      refine Ev.step (fun k => ?_) (bad_ev xs hl rest (pre ++ [x]) (acc + 1) (by simp [h]) (by omega) (by simp; omega))
      simp only [block_Bad.l0]
      rw [if_pos hlt, if_pos (by omega), if_pos hlt, hx, if_pos hb, hw, w64 (by omega) (by omega)]
    | false =>
      have e : acc + ((x :: rest).countP (·.f0) : Nat) = acc + (rest.countP (·.f0) : Nat) := by simp [hb]
      rw [e]
      refine Ev.step (fun k => ?_) (bad_ev xs hl rest (pre ++ [x]) acc (by simp [h]) h0 (by simp; omega))
      simp only [block_Bad.l0]
      rw [if_pos hlt, if_pos (by omega), if_pos hlt, hx, if_neg (by simp [hb]), hw]
theorem bad_all (xs : List S27) (hl : xs.length ≤ 1000) : Ev (fun k => block_Bad.f k xs) ((xs.countP (·.f0) : Nat) : Int) := by
  have := bad_ev xs hl xs [] 0 rfl (by omega) (by simp)
  simpa [block_Bad.f] using this

/-- The places of the clean ones, from one on. -/
def cl : Int → List S27 → List Int
  | _, [] => []
  | i, x :: rest => if isClean x = true then i :: cl (i + 1) rest else cl (i + 1) rest
theorem cl_length : ∀ (l : List S27) (i : Int), (cl i l).length = l.countP isClean
  | [], _ => rfl
  | x :: l, i => by
    cases hx : isClean x <;> simp [cl, hx, cl_length l]
theorem cleans_ev (xs : List S27) (hl : xs.length ≤ 1000) : ∀ (rest pre : List S27) (acc : List Int), xs = pre ++ rest → acc.length ≤ pre.length →
    Ev (fun k => block_Cleans.l0 k acc xs (xs.length : Int) (pre.length : Int)) (acc ++ cl pre.length rest)
  | [], pre, acc, h, _ => by
    refine Ev.step (f := fun _ => some (acc ++ cl pre.length [])) (fun k => ?_) (Ev.now _)
    subst h
    simp only [block_Cleans.l0]
    rw [if_neg (end_not pre)]
    simp [cl]
  | x :: rest, pre, acc, h, h1 => by
    have hlt : (pre.length : Int) < (xs.length : Int) := by rw [h]; exact mid_lt pre rest x
    have hx : rd_T27 xs (pre.length : Int) = x := by rw [h]; exact mid pre rest x
    have hw : wrap64 ((pre.length : Int) + 1) = ((pre ++ [x]).length : Int) := by rw [w64 (by omega) (by omega)]; simp
    have hp : ((pre ++ [x]).length : Int) = (pre.length : Int) + 1 := by simp
    cases hb : isClean x with
    | true =>
      have e : acc ++ cl pre.length (x :: rest) = (acc ++ [(pre.length : Int)]) ++ cl (pre ++ [x]).length rest := by rw [hp]; simp [cl, hb]
      rw [e]
      refine Ev.step (fun k => ?_) (cleans_ev xs hl rest (pre ++ [x]) (acc ++ [(pre.length : Int)]) (by simp [h]) (by simp; omega))
      simp only [block_Cleans.l0]
      rw [if_pos hlt, if_pos (by omega), if_pos hlt, hx, clean_eq, hb]
      simp only [Option.bind_some, if_true]
      rw [if_pos (by omega), hw]
    | false =>
      have e : acc ++ cl pre.length (x :: rest) = acc ++ cl (pre ++ [x]).length rest := by rw [hp]; simp [cl, hb]
      rw [e]
      refine Ev.step (fun k => ?_) (cleans_ev xs hl rest (pre ++ [x]) acc (by simp [h]) (by simp; omega))
      simp only [block_Cleans.l0]
      rw [if_pos hlt, if_pos (by omega), if_pos hlt, hx, clean_eq, hb]
      simp only [Option.bind_some]
      rw [if_neg (by simp), hw]
theorem cleans_all (xs : List S27) (hl : xs.length ≤ 1000) : Ev (fun k => block_Cleans.f k xs) (cl 0 xs) := by
  have := cleans_ev xs hl xs [] [] rfl (by simp)
  simpa [block_Cleans.f] using this

theorem good_ev (xs : List S27) (hl : xs.length ≤ 1000) : ∀ (rest pre : List S27) (acc : List Bool), xs = pre ++ rest → acc.length ≤ pre.length →
    Ev (fun k => block_Good.l0 k acc xs (xs.length : Int) (pre.length : Int)) (acc ++ rest.map fun x => !x.f0)
  | [], pre, acc, h, _ => by
    refine Ev.step (f := fun _ => some (acc ++ ([] : List S27).map fun x => !x.f0)) (fun k => ?_) (Ev.now _)
    subst h
    simp only [block_Good.l0]
    rw [if_neg (end_not pre)]
    simp
  | x :: rest, pre, acc, h, h1 => by
    have hlt : (pre.length : Int) < (xs.length : Int) := by rw [h]; exact mid_lt pre rest x
    have hx : rd_T27 xs (pre.length : Int) = x := by rw [h]; exact mid pre rest x
    have hw : wrap64 ((pre.length : Int) + 1) = ((pre ++ [x]).length : Int) := by rw [w64 (by omega) (by omega)]; simp
    have e : acc ++ (x :: rest).map (fun x => !x.f0) = (acc ++ [!x.f0]) ++ rest.map fun x => !x.f0 := by simp
    rw [e]
    refine Ev.step (fun k => ?_) (good_ev xs hl rest (pre ++ [x]) (acc ++ [!x.f0]) (by simp [h]) (by simp; omega))
    simp only [block_Good.l0]
    rw [if_pos hlt, if_pos (by omega), if_pos hlt, hx, if_pos (by omega), hw]
theorem good_all (xs : List S27) (hl : xs.length ≤ 1000) : Ev (fun k => block_Good.f k xs) (xs.map fun x => !x.f0) := by
  have := good_ev xs hl xs [] [] rfl (by simp)
  simpa [block_Good.f] using this

theorem left_bad (x : S27) (p : Int) (h : x.f0 = true) (f0 : Bool) (h' : f0 = x.f0) : Ev (fun k => block_Left.f k f0 x.f1 x.f2 x.f3 p) 0 := by
  refine Ev.congr (f := fun k => block_Left.j0 k p true f0 x.f1 x.f2 x.f3) (fun k => by unfold block_Left.f; rw [if_pos (h'.trans h)]) ?_
  exact Ev.step (f := fun _ => some 0) (fun k => by simp only [block_Left.j0]; rw [if_pos trivial]) (Ev.now _)
theorem left_clean (x : S27) (p : Int) (h : isClean x = true) (h0 : 1 ≤ p) (h1 : p ≤ 1000) : Ev (fun k => block_Left.f k x.f0 x.f1 x.f2 x.f3 p) p := by
  have hf : x.f0 = false := by unfold isClean at h; cases hx : x.f0 <;> simp [hx] at h ⊢
  have hn : x.f1 = 0 := by unfold isClean at h; simpa [hf] using h
  refine Ev.congr (f := fun k => block_Left.j0 k p false x.f0 x.f1 x.f2 x.f3) (fun k => ?_) ?_
  · unfold block_Left.f
    rw [if_neg (by simp [hf])]
    congr 1
    rw [hn]
    simp; omega
  · refine Ev.step (f := fun _ => some p) (fun k => ?_) (Ev.now _)
    simp only [block_Left.j0]
    rw [if_neg (by simp), hn, w64 (by omega) (by omega), if_neg (by omega), Int.sub_zero]
theorem left_any (x : S27) (p : Int) : ∃ r, Ev (fun k => block_Left.f k x.f0 x.f1 x.f2 x.f3 p) r := by
  have hj : ∀ b, ∃ r, Ev (fun k => block_Left.j0 k p b x.f0 x.f1 x.f2 x.f3) r := fun b => by
    cases b with
    | true => exact ⟨0, Ev.step (f := fun _ => some 0) (fun k => by simp only [block_Left.j0]; rw [if_pos trivial]) (Ev.now _)⟩
    | false =>
      by_cases h : wrap64 (p - x.f1) < 0
      · exact ⟨_, Ev.step (f := fun _ => some 9223372036854775807) (fun k => by simp only [block_Left.j0]; rw [if_neg (by simp), if_pos h]) (Ev.now _)⟩
      · exact ⟨_, Ev.step (f := fun _ => some (wrap64 (p - x.f1))) (fun k => by simp only [block_Left.j0]; rw [if_neg (by simp), if_neg h]) (Ev.now _)⟩
  by_cases h : x.f0 = true
  · obtain ⟨r, hr⟩ := hj true
    exact ⟨r, Ev.congr (fun k => by unfold block_Left.f; rw [if_pos h]) hr⟩
  · obtain ⟨r, hr⟩ := hj (decide (x.f1 ≥ p))
    exact ⟨r, Ev.congr (fun k => by unfold block_Left.f; rw [if_neg h]) hr⟩

theorem awake_ev : Ev (fun k => potsherdlaw8_awake.f k) true := Ev.of potsherdlaw8_awake.mono (k := 20) (by decide +kernel)
end Go.Proofs.Ytflaaphlghkpnaa.BlockPure
