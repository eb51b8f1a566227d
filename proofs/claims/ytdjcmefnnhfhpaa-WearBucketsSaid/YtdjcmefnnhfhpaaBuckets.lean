import Derived.Test.YtdjcmefnnhfhpaaOne
import Derived.Test.YtdjcmefnnhfhpaaG6
set_option linter.unusedVariables false
set_option linter.unusedSimpArgs false
/-! WearBuckets: always true. -/
namespace Go.Proofs.Ytdjcmefnnhfhpaa.Buckets
open Go.RowKit Go.Proofs.YtdjcmefnnhfhpaaW.PrintWords Go.Proofs.YtdjcmefnnhfhpaaW.PrintLast Go.Proofs.YtdjcmefnnhfhpaaW.PrintMore Go.Proofs.Ytdjcmefnnhfhpaa.PAll Go.Proofs.Ytdjcmefnnhfhpaa.Iter Go.Proofs.Ytdjcmefnnhfhpaa.Pure1 Go.Proofs.Ytdjcmefnnhfhpaa.Pure2 Go.Proofs.Ytdjcmefnnhfhpaa.Pure3 Go.Proofs.Ytdjcmefnnhfhpaa.Pure4 Go.Proofs.Ytdjcmefnnhfhpaa.Forms Go.Proofs.Ytdjcmefnnhfhpaa.Ends Go.Proofs.Ytdjcmefnnhfhpaa.One

/-! ### all -/
theorem all_loop (n : Nat) (hn : n ≤ 60) : ∀ (m j : Nat), j + m = n → Ev (fun k => potsherdlaw7_all.l0 k (List.replicate j true ++ List.replicate m false) (n : Int) (j : Int)) (List.replicate n true)
  | 0, j, hm => by
    have : j = n := by omega
    subst this
    refine Ev.step (f := fun _ => some (List.replicate j true)) (fun k => ?_) (Ev.now _)
    simp only [potsherdlaw7_all.l0]
    rw [if_neg (by omega)]
    simp
  | m + 1, j, hm => by
    refine Ev.step (fun k => ?_) (all_loop n hn m (j + 1) (by omega))
    have hl : ((List.replicate j true ++ List.replicate (m + 1) false).length : Int) = (n : Int) := by simp; omega
    have hs : (List.replicate j true ++ List.replicate (m + 1) false).set ((j : Int)).toNat true = List.replicate (j + 1) true ++ List.replicate m false := by
      rw [Int.toNat_natCast, List.set_append_right _ _ (by simp), List.length_replicate, Nat.sub_self, List.replicate_succ, List.set_cons_zero, List.replicate_succ' (n := j), List.append_assoc]
      rfl
    simp only [potsherdlaw7_all.l0]
    rw [if_pos (by omega), if_pos (by omega), if_pos (by omega), hs, w64 (by omega) (by omega)]
    rfl
theorem all_ev (n : Nat) (hn : n ≤ 60) : Ev (fun k => potsherdlaw7_all.f k (n : Int)) (List.replicate n true) := by
  have := all_loop n hn n 0 (by omega)
  refine Ev.congr (fun k => ?_) this
  unfold potsherdlaw7_all.f
  rw [if_pos (by omega), if_pos (by omega)]
  simp
theorem all_places (c : List Int) : ∀ (rest pre : List Int), c = pre ++ rest → (wl (pre.length : Int) (List.replicate rest.length true)).map (rd c) = rest
  | [], pre, h => by simp [wl]
  | v :: rest, pre, h => by
    have ih := all_places c rest (pre ++ [v]) (by simp [h])
    have hp : ((pre ++ [v]).length : Int) = (pre.length : Int) + 1 := by simp
    rw [hp] at ih
    have hv : rd c (pre.length : Int) = v := by rw [rd_nat, h]; simp
    simp only [List.length_cons, List.replicate_succ, wl, if_pos, List.map_cons, ih, hv]
theorem places_all (c : List Int) : (places c (List.replicate c.length true)).map (rd c) = c := by
  have := all_places c c [] rfl
  unfold places
  simpa using this

/-! ### how many are of one count -/
def cnt (v : Int) : List Int → Int
  | [] => 0
  | x :: l => (if x = v then 1 else 0) + cnt v l
theorem cnt_nonneg (v : Int) : ∀ l : List Int, 0 ≤ cnt v l ∧ cnt v l ≤ l.length
  | [] => by simp [cnt]
  | x :: l => by
    have := cnt_nonneg v l
    have hl : ((x :: l).length : Int) = (l.length : Int) + 1 := by simp
    unfold cnt
    split <;> omega
theorem cnt_pos (v : Int) : ∀ l : List Int, v ∈ l ↔ 0 < cnt v l
  | [] => by simp [cnt]
  | x :: l => by
    have := cnt_nonneg v l
    have ih := cnt_pos v l
    unfold cnt
    rw [List.mem_cons]
    split
    · rename_i h; subst h; exact ⟨fun _ => by omega, fun _ => .inl rfl⟩
    · rename_i h
      constructor
      · rintro (h' | h')
        · exact absurd h'.symm h
        · have := ih.1 h'; omega
      · intro h'; exact .inr (ih.2 (by omega))
theorem cnt_set (v x : Int) : ∀ (l : List Int) (i : Nat), i < l.length → cnt v (l.set i x) = cnt v l - (if l.getD i 0 = v then 1 else 0) + (if x = v then 1 else 0)
  | [], i, h => by simp at h
  | y :: l, 0, _ => by simp [cnt]; omega
  | y :: l, i + 1, h => by
    have := cnt_set v x l i (by simpa using h)
    simp only [List.set_cons_succ, cnt, this, List.getD_cons_succ]
    omega
theorem bumps_getD (lo : Int) : ∀ (vs out : List Int), (∀ v ∈ vs, 0 ≤ v - lo ∧ v - lo < out.length) → out.length ≤ 1000000 → (∀ i, 0 ≤ out.getD i 0 ∧ out.getD i 0 + vs.length ≤ 1000000) → ∀ i : Nat, i < out.length → (bumps lo out vs).getD i 0 = out.getD i 0 + cnt (lo + i) vs
  | [], out, _, _, _, i, _ => by simp [bumps, cnt]
  | v :: vs, out, hv, hl, ho, i, hi => by
    obtain ⟨v1, v2⟩ := hv v (by simp)
    have hll : ((v :: vs).length : Int) = (vs.length : Int) + 1 := by simp
    obtain ⟨j, hj⟩ := Int.eq_ofNat_of_zero_le v1
    have hb : bump lo out v = out.set j (out.getD j 0 + 1) := by
      have := ho j
      unfold bump
      rw [w64 (n := v - lo) (by omega) (by omega), hj, rd_nat, w64 (by omega) (by omega)]
      rfl
    have hg : ∀ i, (bump lo out v).getD i 0 = if i = j then out.getD j 0 + 1 else out.getD i 0 := fun i => by rw [hb, getD_set out j i _ (by omega)]
    have ih := bumps_getD lo vs (bump lo out v) (fun x hx => by rw [bump_length]; exact hv x (by simp [hx])) (by rw [bump_length]; exact hl) (fun i => by
      rw [hg]
      have := ho i
      have := ho j
      split <;> omega) i (by rw [bump_length]; exact hi)
    show (bumps lo (bump lo out v) vs).getD i 0 = _
    rw [ih, hg]
    show _ = out.getD i 0 + ((if v = lo + i then 1 else 0) + cnt (lo + i) vs)
    by_cases h : i = j
    · subst h
      rw [if_pos rfl, if_pos (by omega)]
      omega
    · rw [if_neg h, if_neg (by omega)]
      omega
theorem whole {c : List Int} {n : Nat} {B lo hi ap cc h : Int} (hn : n ≤ 60) (h1 : 1 ≤ n) (hB : B ≤ 1000) (hf : Filled B n c) (t : Tells c (List.replicate c.length true) lo hi ap cc h) :
    (lo ∈ c ∧ ∀ v ∈ c, lo ≤ v) ∧ (hi ∈ c ∧ ∀ v ∈ c, v ≤ hi) ∧ 0 ≤ lo ∧ hi < B ∧ ((bkts c (List.replicate c.length true) lo ap).length : Int) = hi - lo + 1 ∧ ∀ i : Nat, (i : Int) < hi - lo + 1 → (bkts c (List.replicate c.length true) lo ap).getD i 0 = cnt (lo + i) c := by
  have hc := hf.1
  have hpm := places_all c
  have hmem : ∀ v, v ∈ c ↔ ∃ x ∈ places c (List.replicate c.length true), rd c x = v := fun v => by
    constructor
    · intro hv
      rw [← hpm] at hv
      exact List.mem_map.1 hv
    · rintro ⟨x, hx, rfl⟩
      rw [← hpm]
      have := List.mem_map_of_mem (f := rd c) hx
      rw [hpm] at this ⊢
      exact this
  have hne : places c (List.replicate c.length true) ≠ [] := by
    intro h
    rw [h] at hpm
    have : c.length = 0 := by rw [← hpm]; rfl
    omega
  rcases t.what with ⟨e, _⟩ | ⟨_, hlo, hhi, _, _⟩
  · exact absurd e hne
  · have a1 : lo ∈ c := (hmem lo).2 hlo.1
    have a2 : ∀ v ∈ c, lo ≤ v := fun v hv => by
      obtain ⟨x, hx, rfl⟩ := (hmem v).1 hv
      exact hlo.2 x hx
    have a3 : hi ∈ c := (hmem hi).2 hhi.1
    have a4 : ∀ v ∈ c, v ≤ hi := fun v hv => by
      obtain ⟨x, hx, rfl⟩ := (hmem v).1 hv
      exact hhi.2 x hx
    have a5 : ∀ v ∈ c, 0 ≤ v ∧ v < B := fun v hv => by
      obtain ⟨i, hi, rfl⟩ := List.getElem_of_mem hv
      have := hf.2 i (by omega)
      rw [List.getD_eq_getElem?_getD, List.getElem?_eq_getElem hi] at this
      exact this
    have b1 := a5 lo a1
    have b3 := a5 hi a3
    have b2 := a4 lo a1
    have ap1 := apart_in (by omega) hf t
    have hb : bkts c (List.replicate c.length true) lo ap = bumps lo (List.replicate (ap + 1).toNat 0) c := by
      unfold bkts
      rw [if_neg (by simp only [hne, false_or]; omega), hpm]
    refine ⟨⟨a1, a2⟩, ⟨a3, a4⟩, by omega, by omega, ?_, fun i hi' => ?_⟩
    · rw [hb, bumps_length, List.length_replicate]; omega
    · rw [hb, bumps_getD lo c (List.replicate (ap + 1).toNat 0) (fun v hv => by
        rw [List.length_replicate]
        have := a2 v hv
        have := a4 v hv
        omega) (by rw [List.length_replicate]; omega) (fun i => by
        have : (List.replicate (ap + 1).toNat (0 : Int)).getD i 0 = 0 := by
          rw [List.getD_eq_getElem?_getD, List.getElem?_replicate]
          split <;> rfl
        omega) i (by rw [List.length_replicate]; omega)]
      have : (List.replicate (ap + 1).toNat (0 : Int)).getD i 0 = 0 := by
        rw [List.getD_eq_getElem?_getD, List.getElem?_replicate]
        split <;> rfl
      omega
theorem all_bkts {c : List Int} {n : Nat} {B lo hi ap cc h : Int} (hn : n ≤ 60) (hB : B ≤ 1000) (hf : Filled B n c) (t : Tells c (List.replicate c.length true) lo hi ap cc h) : Ev (fun k => wear_Buckets.f k c (List.replicate c.length true)) (bkts c (List.replicate c.length true) lo ap) :=
  wear_bkts (by have := hf.1; omega) (by rw [List.length_replicate]; have := hf.1; omega) t (filled_fits hf (by omega))

/-! ### the loop at the end -/
theorem last_loop (b d : List Int) (x11 : Int) (hl : b.length ≤ 1000) (hx : 0 ≤ x11 ∧ x11 ≤ 1000) (hd : d.length = b.length) (hb : ∀ i, i < b.length → 0 ≤ b.getD i 0 ∧ b.getD i 0 ≤ 1000) (he : ∀ i : Nat, i < b.length → d.getD i 0 = b.getD i 0 - (if (i : Int) = x11 then 1 else 0) + (if (i : Int) = x11 + 1 then 1 else 0)) : ∀ (m j : Nat), j + m = b.length →
    Ev (fun k => potsherdlaw7_WearBuckets.l1 k b x11 d (b.length : Int) (j : Int)) true
  | 0, j, hm => by
    refine Ev.step (f := fun k => (potsherdlaw7_awake.f k).bind fun t => some t) (fun k => ?_) (Ev.bind awake_ev (Ev.now _))
    simp only [potsherdlaw7_WearBuckets.l1]
    rw [if_neg (by omega)]
  | m + 1, j, hm => by
    have ih := last_loop b d x11 hl hx hd hb he m (j + 1) (by omega)
    have hj := he j (by omega)
    have hbj := hb j (by omega)
    have hw : wrap64 ((j : Int) + 1) = ((j + 1 : Nat) : Int) := by rw [w64 (by omega) (by omega)]; rfl
    have hw2 : wrap64 (x11 + 1) = x11 + 1 := w64 (by omega) (by omega)
    by_cases h1 : (j : Int) = x11
    · rw [if_pos h1, if_neg (by omega)] at hj
      refine Ev.step (f := fun k => potsherdlaw7_WearBuckets.j6 k b x11 d j (wrap64 (rd b j - 1)) (b.length : Int) j) (fun k => ?_) (Ev.step (fun k => ?_) ih)
      · simp only [potsherdlaw7_WearBuckets.l1]
        rw [if_pos (by omega), if_pos (by omega), if_pos (by omega), if_pos h1]
      · simp only [potsherdlaw7_WearBuckets.j6]
        rw [hw2, if_neg (by omega), if_pos (by omega), if_pos (by omega), rd_nat, rd_nat, w64 (n := b.getD j 0 - 1) (by omega) (by omega), if_pos (by omega), hw]
    · rw [if_neg h1] at hj
      refine Ev.step (f := fun k => potsherdlaw7_WearBuckets.j6 k b x11 d j (rd b j) (b.length : Int) j) (fun k => ?_) (Ev.step (fun k => ?_) ih)
      · simp only [potsherdlaw7_WearBuckets.l1]
        rw [if_pos (by omega), if_pos (by omega), if_pos (by omega), if_neg h1]
      · simp only [potsherdlaw7_WearBuckets.j6]
        rw [hw2]
        by_cases h2 : (j : Int) = x11 + 1
        · rw [if_pos h2] at hj
          rw [if_pos h2, if_pos (by omega), if_pos (by omega), rd_nat, rd_nat, w64 (n := b.getD j 0 + 1) (by omega) (by omega), if_pos (by omega), hw]
        · rw [if_neg h2] at hj
          rw [if_neg h2, if_pos (by omega), if_pos (by omega), rd_nat, rd_nat, if_pos (by omega), hw]
theorem fill (l0 : List Int) (a1 : Int) (hl : l0.length ≤ 60) (s : Bool) (F : Nat → List Int → Option Bool)
    (hF : ∀ k x5 x27 x28 x29, ¬ x29 < x28 → potsherdlaw7_WearBuckets.l0 (k + 1) a1 x5 x27 x28 x29 = F k x5)
    (tail : ∀ c, Filled 30 l0.length c → Ev (fun k => F k c) s) :
    ∀ (m j : Nat) (out : List Int), j + m = l0.length → out.length = l0.length → (∀ i, i < j → 0 ≤ out.getD i 0 ∧ out.getD i 0 < 30) → Ev (fun k => potsherdlaw7_WearBuckets.l0 k a1 out l0 (l0.length : Int) (j : Int)) s
  | 0, j, out, hm, ho, hf => Ev.step (fun k => hF k out l0 _ _ (by omega)) (tail out ⟨ho, fun i hi => hf i (by omega)⟩)
  | m + 1, j, out, hm, ho, hf => by
    have hs := small (rd l0 (j : Int)) 30 (by omega) (by omega)
    refine Ev.step (fun k => ?_) (fill l0 a1 hl s F hF tail m (j + 1) (out.set j (wrap64 (Int.tmod (IntKind.u64.wrap (rd l0 (j : Int))) 30))) (by omega) (by simp [ho]) (fun i hi => by
      rw [getD_set out j i _ (by omega)]
      split
      · exact hs
      · exact hf i (by omega)))
    simp only [potsherdlaw7_WearBuckets.l0]
    rw [if_pos (by omega), if_pos (by omega), if_pos (by omega), if_pos (by omega), w64 (n := (j : Int) + 1) (by omega) (by omega)]
    rfl
theorem pure (l0 : List Int) (a1 : Int) : Ev (fun k => potsherdlaw7_WearBuckets.f k l0 a1) true := by
  have hawake : ∀ b, b = true → Ev (fun k => potsherdlaw7_WearBuckets.j0 k l0 a1 b) true := fun b hb => by
    subst hb
    refine Ev.step (f := fun k => (potsherdlaw7_awake.f k).bind fun t => some t) (fun k => ?_) (Ev.bind awake_ev (Ev.now _))
    simp only [potsherdlaw7_WearBuckets.j0]
    rw [if_pos trivial]
  by_cases g0 : (l0.length : Int) < 1
  · exact Ev.congr (fun k => by unfold potsherdlaw7_WearBuckets.f; rw [if_pos g0]) (hawake _ rfl)
  refine Ev.congr (fun k => by unfold potsherdlaw7_WearBuckets.f; rw [if_neg g0]) ?_
  by_cases g1 : (l0.length : Int) > 60
  · exact hawake _ (by simpa using g1)
  have main := fill l0 a1 (by omega) true _ (fun k x5 x27 x28 x29 hx => by simp only [potsherdlaw7_WearBuckets.l0]; rw [if_neg hx]) (fun c hf => by
    have hc := hf.1
    have hal := all_ev c.length (by omega)
    obtain ⟨lo, hi, ap, cc, hh, t⟩ := tells c (List.replicate c.length true) (by omega) (by rw [List.length_replicate]; omega) (filled_fits hf (by omega))
    obtain ⟨⟨w1, w2⟩, ⟨w3, w4⟩, w5, w6, w7, w8⟩ := whole (by omega) (by omega) (by omega) hf t
    have lh := w4 lo w1
    generalize hbk : bkts c (List.replicate c.length true) lo ap = b at *
    have eb : Ev (fun k => wear_Buckets.f k c (List.replicate c.length true)) b := by rw [← hbk]; exact all_bkts (by omega) (by omega) hf t
    have cl : ∀ v, cnt v c ≤ 60 := fun v => by have := (cnt_nonneg v c).2; omega
    have b0 : b.getD 0 0 = cnt lo c := by rw [w8 0 (by omega)]; simp
    have bl : b.getD (b.length - 1) 0 = cnt hi c := by
      rw [w8 (b.length - 1) (by omega)]
      congr 1
      omega
    have p0 := (cnt_pos lo c).1 w1
    have p1 := (cnt_pos hi c).1 w3
    refine Ev.bind hal (Ev.bind eb (Ev.bind hal (Ev.bind t.e1 ?_)))
    refine Ev.congr (f := fun k => potsherdlaw7_WearBuckets.j2 k a1 c b lo hi false) (fun k => ?_) ?_
    · have r0 : rd b 0 = b.getD 0 0 := rd_nat b 0
      have r1 : rd b (wrap64 ((b.length : Int) - 1)) = b.getD (b.length - 1) 0 := by
        rw [w64 (by omega) (by omega), show (b.length : Int) - 1 = ((b.length - 1 : Nat) : Int) by omega, rd_nat]
      rw [w64 (n := hi - lo) (by omega) (by omega), w64 (n := hi - lo + 1) (by omega) (by omega), if_pos (by omega), if_pos (by omega), if_neg (by omega), r1, w64 (n := (b.length : Int) - 1) (by omega) (by omega), if_pos (by omega), if_pos (by omega)]
      rw [decide_eq_false (by omega)]
    have hat := small a1 (c.length : Int) (by omega) (by omega)
    obtain ⟨i, hi'⟩ := Int.eq_ofNat_of_zero_le hat.1
    rw [hi'] at hat
    have hfi := hf.2 i (by omega)
    have hci : c.getD i 0 ∈ c := by
      rw [List.getD_eq_getElem?_getD, List.getElem?_eq_getElem (show i < c.length by omega)]
      exact List.getElem_mem _
    have aw : ∀ q, q = true → Ev (fun k => potsherdlaw7_WearBuckets.j3 k (i : Int) c b lo q) true := fun q hq => by
      subst hq
      refine Ev.step (f := fun k => (potsherdlaw7_awake.f k).bind fun t => some t) (fun k => ?_) (Ev.bind awake_ev (Ev.now _))
      simp only [potsherdlaw7_WearBuckets.j3]
      rw [if_pos trivial]
    have down : ∀ (hne : c.getD i 0 ≠ hi) (hne2 : c.getD i 0 = lo → cnt lo c ≠ 1), Ev (fun k => potsherdlaw7_WearBuckets.j3 k (i : Int) c b lo false) true := fun hne hne2 => by
      have hle := w4 _ hci
      have hge := w2 _ hci
      have hf2 : Filled 31 l0.length (c.set i (c.getD i 0 + 1)) := ⟨by simp [hc], fun j hj => by
        rw [getD_set c i j _ (by omega)]
        split
        · omega
        · have := hf.2 j hj; omega⟩
      have hc2 : (c.set i (c.getD i 0 + 1)).length = c.length := by simp
      obtain ⟨lo2, hi2, ap2, cc2, hh2, t2⟩ := tells (c.set i (c.getD i 0 + 1)) (List.replicate (c.set i (c.getD i 0 + 1)).length true) (by omega) (by rw [List.length_replicate]; omega) (filled_fits hf2 (by omega))
      obtain ⟨⟨v1, v2⟩, ⟨v3, v4⟩, v5, v6, v7, v8⟩ := whole (by omega) (by omega) (by omega) hf2 t2
      have cs : ∀ v, cnt v (c.set i (c.getD i 0 + 1)) = cnt v c - (if c.getD i 0 = v then 1 else 0) + (if c.getD i 0 + 1 = v then 1 else 0) := fun v => cnt_set v _ c i (by omega)
      have e1 : lo2 = lo := by
        have q1 : lo ∈ c.set i (c.getD i 0 + 1) := (cnt_pos _ _).2 (by
          rw [cs lo]
          by_cases hq : c.getD i 0 = lo
          · have := hne2 hq
            rw [if_pos hq, if_neg (by omega)]
            omega
          · rw [if_neg hq]
            split <;> omega)
        have q2 := v2 lo q1
        have q3 : 0 < cnt lo2 c ∨ lo2 = c.getD i 0 + 1 := by
          have := (cnt_pos _ _).1 v1
          rw [cs lo2] at this
          by_cases hq : c.getD i 0 + 1 = lo2
          · exact .inr hq.symm
          · rw [if_neg hq] at this
            refine .inl ?_
            split at this <;> omega
        rcases q3 with q3 | q3
        · have := w2 lo2 ((cnt_pos _ _).2 q3); omega
        · omega
      have e2 : hi2 = hi := by
        have q1 : hi ∈ c.set i (c.getD i 0 + 1) := (cnt_pos _ _).2 (by
          rw [cs hi, if_neg hne]
          split <;> omega)
        have q2 := v4 hi q1
        have q3 : 0 < cnt hi2 c ∨ hi2 = c.getD i 0 + 1 := by
          have := (cnt_pos _ _).1 v3
          rw [cs hi2] at this
          by_cases hq : c.getD i 0 + 1 = hi2
          · exact .inr hq.symm
          · rw [if_neg hq] at this
            refine .inl ?_
            split at this <;> omega
        rcases q3 with q3 | q3
        · have := w4 hi2 ((cnt_pos _ _).2 q3); omega
        · omega
      subst e1
      subst e2
      have ed := all_bkts (by omega) (by omega) hf2 t2
      generalize hbk2 : bkts (c.set i (c.getD i 0 + 1)) (List.replicate (c.set i (c.getD i 0 + 1)).length true) lo2 ap2 = d at *
      refine Ev.step (f := fun k => (potsherdlaw7_all.f k (c.length : Int)).bind fun t335 => ((wear_Buckets.f k (c.set i (c.getD i 0 + 1)) t335).bind fun t338 => (if (t338.length : Int) = (b.length : Int) then (if (wrap64 (c.getD i 0 - lo2)) < 0 then (potsherdlaw7_WearBuckets.j4 k b (wrap64 (c.getD i 0 - lo2)) t338 true) else (potsherdlaw7_WearBuckets.j4 k b (wrap64 (c.getD i 0 - lo2)) t338 (decide ((wrap64 ((wrap64 (c.getD i 0 - lo2)) + 1)) ≥ (b.length : Int))))) else (potsherdlaw7_WearBuckets.j4 k b (wrap64 (c.getD i 0 - lo2)) t338 true)))) (fun k => ?_) ?_
      · simp only [potsherdlaw7_WearBuckets.j3]
        rw [if_neg (by simp), if_pos (by omega), if_pos (by omega), rd_nat, w64 (n := c.getD i 0 + 1) (by omega) (by omega)]
        rfl
      rw [hc2] at ed
      refine Ev.bind hal (Ev.bind ed ?_)
      rw [w64 (n := c.getD i 0 - lo2) (by omega) (by omega), w64 (n := c.getD i 0 - lo2 + 1) (by omega) (by omega)]
      have hll := last_loop b d (c.getD i 0 - lo2) (by omega) (by omega) (by omega) (fun j hj => by
        rw [w8 j (by omega)]
        have := cnt_nonneg (lo2 + j) c
        omega) (fun j hj => by
        rw [w8 j (by omega), v8 j (by omega), cs]
        congr 1
        · congr 1
          by_cases h : c.getD i 0 = lo2 + j
          · rw [if_pos h, if_pos (by omega)]
          · rw [if_neg h, if_neg (by omega)]
        · by_cases h : c.getD i 0 + 1 = lo2 + j
          · rw [if_pos h, if_pos (by omega)]
          · rw [if_neg h, if_neg (by omega)]) b.length 0 (by omega)
      refine Ev.congr (f := fun k => potsherdlaw7_WearBuckets.j4 k b (c.getD i 0 - lo2) d false) (fun k => ?_) (Ev.step (fun k => ?_) hll)
      · rw [if_pos (by omega), if_neg (by omega)]
        rw [decide_eq_false (by omega)]
      · simp only [potsherdlaw7_WearBuckets.j4]
        rw [if_neg (by simp)]
        rfl
    refine Ev.step (f := fun k => if c.getD i 0 = hi then potsherdlaw7_WearBuckets.j3 k (i : Int) c b lo true else (if c.getD i 0 = lo then (if 0 < (b.length : Int) then potsherdlaw7_WearBuckets.j3 k (i : Int) c b lo ((rd b 0) == 1) else none) else potsherdlaw7_WearBuckets.j3 k (i : Int) c b lo false)) (fun k => ?_) ?_
    · simp only [potsherdlaw7_WearBuckets.j2]
      rw [wrap_len c.length (by omega), if_neg (by simp), if_neg (by omega), hi', if_pos (by omega), if_pos (by omega), rd_nat]
    · by_cases q1 : c.getD i 0 = hi
      · simp only [if_pos q1]; exact aw _ rfl
      · simp only [if_neg q1]
        by_cases q2 : c.getD i 0 = lo
        · simp only [if_pos q2, if_pos (show 0 < (b.length : Int) by omega), show rd b 0 = b.getD 0 0 from rd_nat b 0, b0]
          by_cases q3 : cnt lo c = 1
          · exact aw _ (by rw [q3]; rfl)
          · have := down q1 (fun _ => q3)
            rw [show (cnt lo c == 1) = false by simpa using q3]
            exact this
        · simp only [if_neg q2]
          exact down q1 (fun h => absurd h q2)) l0.length 0 (List.replicate l0.length 0) (by omega) (by simp) (fun i hi => by omega)
  refine Ev.step (fun k => ?_) main
  simp only [potsherdlaw7_WearBuckets.j0]
  rw [if_neg (by simpa using g1), if_pos (by omega), if_pos (by omega)]
  rfl
theorem final (W : World) (A0 : Option Addr) (c0 : Nat) (l0 : List Int) (hc0 : l0.length ≤ c0) (hr0 : Kd.C (Kd.int .i64) W A0 l0.length l0) (hm0 : l0.length ≤ maxLen) (hok0 : ∀ x ∈ l0, (Lit.int .i64 x).wf = true)
    (a1 : Int) (w1 : (Lit.int .i64 a1).wf = true) :
    Calls Try.prog 7 #[.slice A0 l0.length c0, .int .i64 a1] W fun e w' => e = .returned (.bool true) ∧ Below W.heap.size W w' := by
  obtain ⟨k, hk⟩ := (pure l0 a1).rounds
  exact potsherdlaw7_WearBuckets.calls k A0 c0 l0 a1 true W hr0 hc0 hk
end Go.Proofs.Ytdjcmefnnhfhpaa.Buckets
