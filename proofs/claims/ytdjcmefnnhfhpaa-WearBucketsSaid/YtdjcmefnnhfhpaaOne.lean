import Derived.Test.YtdjcmefnnhfhpaaEnds
import Derived.Test.YtdjcmefnnhfhpaaG5
set_option linter.unusedVariables false
set_option linter.unusedSimpArgs false
/-! WearOne: always true. -/
namespace Go.Proofs.Ytdjcmefnnhfhpaa.One
open Go.RowKit Go.Proofs.YtdjcmefnnhfhpaaW.PrintWords Go.Proofs.YtdjcmefnnhfhpaaW.PrintLast Go.Proofs.YtdjcmefnnhfhpaaW.PrintMore Go.Proofs.Ytdjcmefnnhfhpaa.PAll Go.Proofs.Ytdjcmefnnhfhpaa.Iter Go.Proofs.Ytdjcmefnnhfhpaa.Pure1 Go.Proofs.Ytdjcmefnnhfhpaa.Pure2 Go.Proofs.Ytdjcmefnnhfhpaa.Pure3 Go.Proofs.Ytdjcmefnnhfhpaa.Pure4 Go.Proofs.Ytdjcmefnnhfhpaa.Forms Go.Proofs.Ytdjcmefnnhfhpaa.Ends

/-! ### sums -/
def sumI : List Int → Int
  | [] => 0
  | x :: l => x + sumI l
def NonNeg (l : List Int) : Prop := ∀ x ∈ l, 0 ≤ x
theorem sumI_nonneg : ∀ (l : List Int), NonNeg l → 0 ≤ sumI l
  | [], _ => Int.le_refl _
  | x :: l, h => by
    have := sumI_nonneg l (fun y hy => h y (by simp [hy]))
    have := h x (by simp)
    unfold sumI
    omega
theorem sumI_set : ∀ (l : List Int) (i : Nat) (v : Int), i < l.length → sumI (l.set i v) = sumI l - l.getD i 0 + v
  | [], i, v, h => by simp at h
  | x :: l, 0, v, _ => by simp [sumI]; omega
  | x :: l, i + 1, v, h => by
    have := sumI_set l i v (by simpa using h)
    simp only [List.set_cons_succ, sumI, this]
    simp
    omega
theorem getD_le_sum : ∀ (l : List Int) (i : Nat), NonNeg l → i < l.length → l.getD i 0 ≤ sumI l
  | [], i, _, h => by simp at h
  | x :: l, 0, hn, _ => by
    have := sumI_nonneg l (fun y hy => hn y (by simp [hy]))
    simp [sumI]
    omega
  | x :: l, i + 1, hn, h => by
    have := getD_le_sum l i (fun y hy => hn y (by simp [hy])) (by simpa using h)
    have := hn x (by simp)
    simp [sumI] at *
    omega
theorem nonneg_getD {l : List Int} (h : NonNeg l) (i : Nat) : 0 ≤ l.getD i 0 := by
  rw [List.getD_eq_getElem?_getD]
  cases e : l[i]? with
  | none => exact Int.le_refl _
  | some x => exact h x (List.mem_of_getElem? e)
theorem nonneg_set {l : List Int} (h : NonNeg l) (i : Nat) (v : Int) (hv : 0 ≤ v) : NonNeg (l.set i v) := fun x hx => by
  rcases List.mem_or_eq_of_mem_set hx with h1 | h1
  · exact h x h1
  · rw [h1]; exact hv
theorem bump_sum {lo : Int} {out : List Int} {v : Int} (hn : NonNeg out) (hs : sumI out ≤ 1000000) (hi : In lo out.length v) : NonNeg (bump lo out v) ∧ sumI (bump lo out v) = sumI out + 1 := by
  obtain ⟨i1, i2⟩ := hi
  obtain ⟨i, hi⟩ := Int.eq_ofNat_of_zero_le i1
  unfold bump
  rw [hi] at i2 ⊢
  have hlt : i < out.length := by omega
  have h1 := getD_le_sum out i hn hlt
  have h2 := nonneg_getD hn i
  rw [rd_nat, w64 (by omega) (by omega)]
  have e : ((i : Int)).toNat = i := by simp
  rw [e]
  refine ⟨nonneg_set hn i _ (by omega), ?_⟩
  rw [sumI_set out i _ hlt]
  omega
theorem bumps_sum (lo : Int) : ∀ (vs : List Int) (out : List Int), NonNeg out → sumI out + vs.length ≤ 1000000 → (∀ v ∈ vs, In lo out.length v) → NonNeg (bumps lo out vs) ∧ sumI (bumps lo out vs) = sumI out + vs.length
  | [], out, hn, _, _ => ⟨hn, by simp [bumps]⟩
  | v :: vs, out, hn, hs, hi => by
    have hl : ((v :: vs).length : Int) = (vs.length : Int) + 1 := by simp
    rw [hl] at hs ⊢
    obtain ⟨b1, b2⟩ := bump_sum hn (by omega) (hi v (by simp))
    obtain ⟨c1, c2⟩ := bumps_sum lo vs (bump lo out v) b1 (by omega) (fun x hx => by rw [bump_length]; exact hi x (by simp [hx]))
    exact ⟨c1, by show sumI (bumps lo (bump lo out v) vs) = _; rw [c2, b2]; omega⟩
theorem zeros_sum : ∀ n : Nat, NonNeg (List.replicate n 0) ∧ sumI (List.replicate n 0) = 0
  | 0 => ⟨fun x hx => (by cases hx), rfl⟩
  | n + 1 => by
    obtain ⟨a, b⟩ := zeros_sum n
    refine ⟨fun x hx => ?_, ?_⟩
    · rw [List.mem_replicate] at hx; omega
    · rw [List.replicate_succ]; unfold sumI; rw [b]; rfl

/-! ### the two loops at the end -/
theorem count_loop (l1 : List Bool) (n0 : Nat) (h1 : l1.length ≤ 60) (s : Int) : ∀ (m j : Nat) (acc : Int), j + m = min l1.length n0 → 0 ≤ acc → acc ≤ j → acc + ((wl j ((l1.take (min l1.length n0)).drop j)).length : Int) = s →
    Ev (fun k => potsherdlaw7_WearOne.l2 k l1 s acc ((min l1.length n0 : Nat) : Int) (j : Int)) true
  | 0, j, acc, hm, ha, hb, hs => by
    have hd : (l1.take (min l1.length n0)).drop j = [] := List.drop_eq_nil_of_le (by rw [List.length_take]; omega)
    rw [hd] at hs
    simp [wl] at hs
    refine Ev.step (f := fun k => (potsherdlaw7_awake.f k).bind fun t => some t) (fun k => ?_) (Ev.bind awake_ev (Ev.now _))
    simp only [potsherdlaw7_WearOne.l2]
    rw [if_neg (by omega), if_pos hs.symm]
  | m + 1, j, acc, hm, ha, hb, hs => by
    have hj : j < (l1.take (min l1.length n0)).length := by rw [List.length_take]; omega
    have hg : (l1.take (min l1.length n0))[j]'hj = rdOf false l1 (j : Int) := by
      have : j < l1.length := by omega
      simp [rdOf, List.getD_eq_getElem?_getD, List.getElem?_eq_getElem this]
    have hd : (l1.take (min l1.length n0)).drop j = rdOf false l1 (j : Int) :: (l1.take (min l1.length n0)).drop (j + 1) := by rw [List.drop_eq_getElem_cons hj, hg]
    rw [hd] at hs
    have hw : wrap64 ((j : Int) + 1) = ((j + 1 : Nat) : Int) := by rw [w64 (by omega) (by omega)]; rfl
    cases hb' : rdOf false l1 (j : Int) with
    | false =>
      rw [hb'] at hs
      have hc : wl (j : Int) (false :: (l1.take (min l1.length n0)).drop (j + 1)) = wl ((j + 1 : Nat) : Int) ((l1.take (min l1.length n0)).drop (j + 1)) := by simp [wl]
      rw [hc] at hs
      refine Ev.step (fun k => ?_) (count_loop l1 n0 h1 s m (j + 1) acc (by omega) ha (by omega) hs)
      simp only [potsherdlaw7_WearOne.l2]
      rw [if_pos (by omega), if_pos (by omega), if_pos (by omega), hb', if_neg (by simp), hw]
    | true =>
      rw [hb'] at hs
      have hc : wl (j : Int) (true :: (l1.take (min l1.length n0)).drop (j + 1)) = (j : Int) :: wl ((j + 1 : Nat) : Int) ((l1.take (min l1.length n0)).drop (j + 1)) := by simp [wl]
      rw [hc, List.length_cons] at hs
      refine Ev.step (fun k => ?_) (count_loop l1 n0 h1 s m (j + 1) (acc + 1) (by omega) (by omega) (by omega) (by omega))
      simp only [potsherdlaw7_WearOne.l2]
      rw [if_pos (by omega), if_pos (by omega), if_pos (by omega), hb', if_pos rfl, hw, w64 (by omega) (by omega)]
theorem sum_loop (l1 : List Bool) (c bs : List Int) (hb : bs.length ≤ 1000000) (s : Int) (hs : s ≤ 1000000) (hl2 : Ev (fun k => potsherdlaw7_WearOne.l2 k l1 s 0 (mn (c.length : Int) (l1.length : Int)) 0) true) : ∀ (rest pre : List Int) (acc : Int), bs = pre ++ rest → NonNeg rest → 0 ≤ acc → acc + sumI rest = s →
    Ev (fun k => potsherdlaw7_WearOne.l1 k l1 c acc bs (bs.length : Int) (pre.length : Int)) true
  | [], pre, acc, h, _, ha, he => by
    have hlen : bs.length = pre.length := by rw [h]; simp
    have he' : acc = s := by simpa [sumI] using he
    subst he'
    refine Ev.step (fun k => ?_) hl2
    simp only [potsherdlaw7_WearOne.l1]
    rw [if_neg (by omega)]
  | v :: rest, pre, acc, h, hn, ha, he => by
    have hlen : bs.length = pre.length + (rest.length + 1) := by rw [h]; simp
    have hv : rd bs (pre.length : Int) = v := by rw [rd_nat, h]; simp
    have h1 := hn v (by simp)
    have h2 := sumI_nonneg rest (fun y hy => hn y (by simp [hy]))
    unfold sumI at he
    have hp : ((pre ++ [v]).length : Int) = (pre.length : Int) + 1 := by simp
    refine Ev.step (fun k => ?_) (sum_loop l1 c bs hb s hs hl2 rest (pre ++ [v]) (acc + v) (by simp [h]) (fun y hy => hn y (by simp [hy])) (by omega) (by omega))
    simp only [potsherdlaw7_WearOne.l1]
    rw [if_pos (by omega), if_pos (by omega), if_pos (by omega), hv, w64 (n := acc + v) (by omega) (by omega), w64 (n := (pre.length : Int) + 1) (by omega) (by omega), hp]

/-! ### one more anywhere -/
theorem raised_rd {B : Int} {n : Nat} {c : List Int} (hf : Filled B n c) (i : Nat) (hi : i < n) (x : Int) (h0 : 0 ≤ x) : rd c x ≤ rd (c.set i (rd c (i : Int) + 1)) x ∧ rd (c.set i (rd c (i : Int) + 1)) x ≤ rd c x + 1 := by
  have hc := hf.1
  by_cases hx : x = (i : Int)
  · subst hx
    rw [rd_set_same c i _ (by omega)]
    omega
  · rw [rd_set_other c i _ x (by omega)]
    omega
theorem apart_in {n : Nat} {c : List Int} {l1 : List Bool} {lo hi ap cc h B : Int} (hB : B ≤ 1000000) (hf : Filled B n c) (t : Tells c l1 lo hi ap cc h) : 0 ≤ ap ∧ ap = hi - lo ∧ (ap = 0 ∨ ap < B) := by
  rcases t.what with ⟨_, _, _, e1, e2⟩ | ⟨_, hlo, hhi, _, _⟩
  · have hap : ap = 0 := by rw [t.apart, e1, e2]; exact less_self 0
    omega
  · have hle := hlo.le hhi
    obtain ⟨⟨x, hx, ex⟩, _⟩ := hlo
    obtain ⟨⟨y, hy, ey⟩, _⟩ := hhi
    have m1 := (mem_places c l1 x).1 hx
    have m2 := (mem_places c l1 y).1 hy
    have hc := hf.1
    have f1 := filled_rd hf x (by omega) (by omega)
    have f2 := filled_rd hf y (by omega) (by omega)
    have hap : ap = hi - lo := by rw [t.apart, lessV, w64 (by omega) (by omega), if_neg (by omega)]
    omega
theorem one_more {n : Nat} {c : List Int} {l1 : List Bool} (hf : Filled 1000 n c) (i : Nat) (hi : i < n) {lo1 hi1 ap1 cc1 h1 lo2 hi2 ap2 cc2 h2 : Int}
    (t1 : Tells c l1 lo1 hi1 ap1 cc1 h1) (t2 : Tells (c.set i (rd c (i : Int) + 1)) l1 lo2 hi2 ap2 cc2 h2) (hf2 : Filled 1001 n (c.set i (rd c (i : Int) + 1))) : 0 ≤ ap1 ∧ ap1 < 1000 ∧ ap2 ≤ ap1 + 1 ∧ ap1 - 1 ≤ ap2 ∧ ap2 ≤ 1000 ∧ 0 ≤ ap2 := by
  have hpl : places (c.set i (rd c (i : Int) + 1)) l1 = places c l1 := places_congr (by simp) l1
  have a1 := apart_in (by omega) hf t1
  have a2 := apart_in (by omega) hf2 t2
  have key : lo1 ≤ lo2 ∧ lo2 ≤ lo1 + 1 ∧ hi1 ≤ hi2 ∧ hi2 ≤ hi1 + 1 := by
    rcases t1.what with ⟨e, _, _, e1, e2⟩ | ⟨e, hlo, hhi, _, _⟩
    · rcases t2.what with ⟨_, _, _, e3, e4⟩ | ⟨e', _⟩
      · omega
      · rw [hpl] at e'; exact absurd e e'
    · rcases t2.what with ⟨e', _⟩ | ⟨_, hlo', hhi', _, _⟩
      · rw [hpl] at e'; exact absurd e' e
      · have step : ∀ x ∈ places c l1, rd c x ≤ rd (c.set i (rd c (i : Int) + 1)) x ∧ rd (c.set i (rd c (i : Int) + 1)) x ≤ rd c x + 1 := fun x hx => raised_rd hf i hi x ((mem_places c l1 x).1 hx).1
        unfold IsLo at hlo'
        unfold IsHi at hhi'
        rw [hpl] at hlo' hhi'
        obtain ⟨⟨x1, p1, q1⟩, r1⟩ := hlo
        obtain ⟨⟨x2, p2, q2⟩, r2⟩ := hhi
        obtain ⟨⟨x3, p3, q3⟩, r3⟩ := hlo'
        obtain ⟨⟨x4, p4, q4⟩, r4⟩ := hhi'
        have s1 := step x1 p1
        have s2 := step x2 p2
        have s3 := step x3 p3
        have s4 := step x4 p4
        have u1 := r1 x3 p3
        have u2 := r2 x4 p4
        have u3 := r3 x1 p1
        have u4 := r4 x2 p2
        omega
  omega
theorem bkts_sum {n : Nat} {c : List Int} {l1 : List Bool} {lo hi ap cc h : Int} (hn : n ≤ 60) (hl : l1.length ≤ 60) (hf : Filled 1001 n c) (t : Tells c l1 lo hi ap cc h) : NonNeg (bkts c l1 lo ap) ∧ sumI (bkts c l1 lo ap) = ((places c l1).length : Int) := by
  have a1 := apart_in (by omega) hf t
  have hlen := places_len c l1
  have hc := hf.1
  unfold bkts
  by_cases hp : places c l1 = []
  · rw [if_pos (.inl hp), hp]
    exact ⟨fun x hx => (by cases hx), rfl⟩
  · obtain ⟨b0, b1, b2⟩ := in_all t (filled_fits hf (by omega)) hp (by omega)
    rw [if_neg (by simp [hp]; omega)]
    obtain ⟨z1, z2⟩ := zeros_sum (ap + 1).toNat
    obtain ⟨s1, s2⟩ := bumps_sum lo ((places c l1).map (rd c)) (List.replicate (ap + 1).toNat 0) z1 (by rw [z2, List.length_map]; omega) (fun v hv => by
      obtain ⟨x, hx, rfl⟩ := List.mem_map.1 hv
      rw [List.length_replicate]
      exact b2 x hx)
    refine ⟨s1, ?_⟩
    rw [s2, z2, List.length_map]
    omega
theorem fill (l0 : List Int) (l1 : List Bool) (a2 : Int) (hl : l0.length ≤ 60)
    (tail : ∀ c, Filled 1000 l0.length c → Ev (fun k => (wear_Apart.f k c l1).bind fun t265 => (if (IntKind.u64.wrap ((c.length : Int))) = 0 then (none) else (if 0 ≤ (wrap64 (Int.tmod (IntKind.u64.wrap (a2)) (IntKind.u64.wrap ((c.length : Int))))) then (if (wrap64 (Int.tmod (IntKind.u64.wrap (a2)) (IntKind.u64.wrap ((c.length : Int))))) < (c.length : Int) then ((some (c.set ((wrap64 (Int.tmod (IntKind.u64.wrap (a2)) (IntKind.u64.wrap ((c.length : Int))))) : Int).toNat (wrap64 ((rd c (wrap64 (Int.tmod (IntKind.u64.wrap (a2)) (IntKind.u64.wrap ((c.length : Int)))))) + 1)) : List Int)).bind fun y267 => ((wear_Apart.f k y267 l1).bind fun t268 => (if t268 > (wrap64 (t265 + 1)) then (potsherdlaw7_WearOne.j2 k l1 y267 true) else (potsherdlaw7_WearOne.j2 k l1 y267 (decide (t268 < (wrap64 (t265 - 1)))))))) else (none)) else (none)))) true) :
    ∀ (m j : Nat) (out : List Int), j + m = l0.length → out.length = l0.length → (∀ i, i < j → 0 ≤ out.getD i 0 ∧ out.getD i 0 < 1000) → Ev (fun k => potsherdlaw7_WearOne.l0 k l1 a2 out l0 (l0.length : Int) (j : Int)) true
  | 0, j, out, hm, ho, hf => by
    refine Ev.step (fun k => ?_) (tail out ⟨ho, fun i hi => hf i (by omega)⟩)
    simp only [potsherdlaw7_WearOne.l0]
    rw [if_neg (by omega)]
  | m + 1, j, out, hm, ho, hf => by
    have hs := small (rd l0 (j : Int)) 1000 (by omega) (by omega)
    refine Ev.step (fun k => ?_) (fill l0 l1 a2 hl tail m (j + 1) (out.set j (wrap64 (Int.tmod (IntKind.u64.wrap (rd l0 (j : Int))) 1000))) (by omega) (by simp [ho]) (fun i hi => by
      rw [getD_set out j i _ (by omega)]
      split
      · exact hs
      · exact hf i (by omega)))
    simp only [potsherdlaw7_WearOne.l0]
    rw [if_pos (by omega), if_pos (by omega), if_pos (by omega), if_pos (by omega), w64 (n := (j : Int) + 1) (by omega) (by omega)]
    rfl
theorem wrap_len (n : Nat) (h : n ≤ 60) : IntKind.u64.wrap (n : Int) = (n : Int) := by
  rw [IntKind.wrap_u64]
  exact Int.emod_eq_of_lt (by omega) (by omega)
theorem pure (l0 : List Int) (l1 : List Bool) (a2 : Int) : Ev (fun k => potsherdlaw7_WearOne.f k l0 l1 a2) true := by
  have hawake : ∀ b, b = true → Ev (fun k => potsherdlaw7_WearOne.j0 k l0 l1 a2 b) true := fun b hb => by
    subst hb
    refine Ev.step (f := fun k => (potsherdlaw7_awake.f k).bind fun t => some t) (fun k => ?_) (Ev.bind awake_ev (Ev.now _))
    simp only [potsherdlaw7_WearOne.j0]
    rw [if_pos trivial]
  by_cases g0 : (l0.length : Int) > 60
  · exact Ev.congr (fun k => by unfold potsherdlaw7_WearOne.f; rw [if_pos g0]) (hawake _ rfl)
  refine Ev.congr (fun k => by unfold potsherdlaw7_WearOne.f; rw [if_neg g0]) ?_
  by_cases g1 : (l1.length : Int) > 60
  · exact Ev.congr (fun k => by rw [if_pos g1]) (hawake _ rfl)
  refine Ev.congr (fun k => by rw [if_neg g1]) ?_
  by_cases g2 : (l0.length : Int) = 0
  · exact hawake _ (by simpa using g2)
  have main := fill l0 l1 a2 (by omega) (fun c hf => by
    have hc := hf.1
    obtain ⟨lo1, hi1, ap1, cc1, hh1, t1⟩ := tells c l1 (by omega) (by omega) (filled_fits hf (by omega))
    have hat := small a2 (c.length : Int) (by omega) (by omega)
    obtain ⟨i, hi⟩ := Int.eq_ofNat_of_zero_le hat.1
    rw [hi] at hat
    have hfi := filled_rd hf (i : Int) (by omega) (by omega)
    have hf2 : Filled 1001 l0.length (c.set i (rd c (i : Int) + 1)) := ⟨by simp [hc], fun j hj => by
      rw [getD_set c i j _ (by omega)]
      split
      · omega
      · have := hf.2 j hj; omega⟩
    have hc2 : (c.set i (rd c (i : Int) + 1)).length = c.length := by simp
    obtain ⟨lo2, hi2, ap2, cc2, hh2, t2⟩ := tells (c.set i (rd c (i : Int) + 1)) l1 (by omega) (by omega) (filled_fits hf2 (by omega))
    have hom := one_more hf i (by omega) t1 t2 hf2
    refine Ev.bind t1.a1 ?_
    refine Ev.congr (f := fun k => (wear_Apart.f k (c.set i (rd c (i : Int) + 1)) l1).bind fun t268 => (if t268 > (wrap64 (ap1 + 1)) then (potsherdlaw7_WearOne.j2 k l1 (c.set i (rd c (i : Int) + 1)) true) else (potsherdlaw7_WearOne.j2 k l1 (c.set i (rd c (i : Int) + 1)) (decide (t268 < (wrap64 (ap1 - 1))))))) (fun k => ?_) ?_
    · rw [wrap_len c.length (by omega), hi, if_neg (by omega), if_pos (by omega), if_pos (by omega), w64 (n := rd c (i : Int) + 1) (by omega) (by omega)]
      rfl
    refine Ev.bind t2.a1 ?_
    rw [w64 (n := ap1 + 1) (by omega) (by omega), w64 (n := ap1 - 1) (by omega) (by omega)]
    obtain ⟨n1, n2⟩ := bkts_sum (by omega) (by omega) hf2 t2
    have hbl := bkts_len (l0 := c.set i (rd c (i : Int) + 1)) (l1 := l1) (lo := lo2) (hi := hi2) (ap := ap2) (c := cc2) (h := hh2)
    have hpl := places_len (c.set i (rd c (i : Int) + 1)) l1
    refine Ev.step (f := fun k => (wear_Buckets.f k (c.set i (rd c (i : Int) + 1)) l1).bind fun t269 => (potsherdlaw7_WearOne.l1 k l1 (c.set i (rd c (i : Int) + 1)) 0 t269 (t269.length : Int) 0)) (fun k => ?_) (Ev.bind (wear_bkts (by omega) (by omega) t2 (filled_fits hf2 (by omega))) ?_)
    · rw [if_neg (by omega)]
      simp only [potsherdlaw7_WearOne.j2]
      rw [if_neg (by simp; omega)]
    · refine sum_loop l1 _ _ hbl ((places (c.set i (rd c (i : Int) + 1)) l1).length : Int) (by omega) ?_ (bkts (c.set i (rd c (i : Int) + 1)) l1 lo2 ap2) [] 0 rfl n1 (by omega) (by omega)
      rw [mn_len (c.set i (rd c (i : Int) + 1)) l1 (by omega) (by omega), Nat.min_comm]
      exact count_loop l1 _ (by omega) _ (min l1.length (c.set i (rd c (i : Int) + 1)).length) 0 0 (by omega) (by omega) (by omega) (by unfold places; simp)) l0.length 0 (List.replicate l0.length 0) (by omega) (by simp) (fun i hi => by omega)
  refine Ev.step (fun k => ?_) main
  simp only [potsherdlaw7_WearOne.j0]
  rw [if_neg (by simpa using g2), if_pos (by omega), if_pos (by omega)]
  rfl
theorem final {ok : Bool → Prop} (W : World) (A0 : Option Addr) (c0 : Nat) (l0 : List Int) (hc0 : l0.length ≤ c0) (hr0 : Kd.C (Kd.int .i64) W A0 l0.length l0) (hm0 : l0.length ≤ maxLen) (hok0 : ∀ x ∈ l0, (Lit.int .i64 x).wf = true)
    (A1 : Option Addr) (c1 : Nat) (l1 : List Bool) (hc1 : l1.length ≤ c1) (hr1 : Kd.C Kd.bool W A1 l1.length l1) (hm1 : l1.length ≤ maxLen) (hok1 : ∀ x ∈ l1, ok x) (a2 : Int) (w2 : (Lit.int .i64 a2).wf = true) :
    Calls Try.prog 5 #[.slice A0 l0.length c0, .slice A1 l1.length c1, .int .i64 a2] W fun e w' => e = .returned (.bool true) ∧ Below W.heap.size W w' := by
  obtain ⟨k, hk⟩ := (pure l0 l1 a2).rounds
  exact potsherdlaw7_WearOne.calls k A0 c0 l0 A1 c1 l1 a2 true W hr0 hc0 hr1 hc1 hk
end Go.Proofs.Ytdjcmefnnhfhpaa.One
