import Derived.Test.YtdjcmefnnhfhpaaEnds
import Derived.Test.YtdjcmefnnhfhpaaG7
set_option linter.unusedVariables false
set_option linter.unusedSimpArgs false
/-! WearLooks: always true. -/
namespace Go.Proofs.Ytdjcmefnnhfhpaa.Looks
open Go.RowKit Go.Proofs.YtdjcmefnnhfhpaaW.PrintWords Go.Proofs.YtdjcmefnnhfhpaaW.PrintLast Go.Proofs.YtdjcmefnnhfhpaaW.PrintMore Go.Proofs.Ytdjcmefnnhfhpaa.PAll Go.Proofs.Ytdjcmefnnhfhpaa.Iter Go.Proofs.Ytdjcmefnnhfhpaa.Pure1 Go.Proofs.Ytdjcmefnnhfhpaa.Pure2 Go.Proofs.Ytdjcmefnnhfhpaa.Pure3 Go.Proofs.Ytdjcmefnnhfhpaa.Pure4 Go.Proofs.Ytdjcmefnnhfhpaa.Forms Go.Proofs.Ytdjcmefnnhfhpaa.Ends

theorem same {a b : List Int} {l1 l2 : List Bool} (hp : places b l2 = places a l1) (hr : ∀ y ∈ places a l1, rd b y = rd a y) {lo hi ap c h lo' hi' ap' c' h' : Int} (t : Tells a l1 lo hi ap c h) (t' : Tells b l2 lo' hi' ap' c' h') : lo = lo' ∧ hi = hi' ∧ ap = ap' ∧ c = c' := by
  have key : lo = lo' ∧ hi = hi' ∧ c = c' := by
    rcases t.what with ⟨e, e1, _, e2, e3⟩ | ⟨e, hlo, hhi, hc, _⟩
    · rcases t'.what with ⟨_, f1, _, f2, f3⟩ | ⟨f, _⟩
      · omega
      · rw [hp] at f; exact absurd e f
    · rcases t'.what with ⟨f, _⟩ | ⟨_, flo, fhi, fc, _⟩
      · rw [hp] at f; exact absurd f e
      · have clo : IsLo a l1 lo' := by
          obtain ⟨⟨x, hx, ex⟩, h2⟩ := flo
          rw [hp] at hx h2
          exact ⟨⟨x, hx, by rw [← hr x hx]; exact ex⟩, fun y hy => by rw [← hr y hy]; exact h2 y hy⟩
        have chi : IsHi a l1 hi' := by
          obtain ⟨⟨x, hx, ex⟩, h2⟩ := fhi
          rw [hp] at hx h2
          exact ⟨⟨x, hx, by rw [← hr x hx]; exact ex⟩, fun y hy => by rw [← hr y hy]; exact h2 y hy⟩
        have e1 := hlo.unique clo
        subst e1
        have cc : IsFirst a l1 lo c' := by
          obtain ⟨hx, ex, h2⟩ := fc
          rw [hp] at hx h2
          exact ⟨hx, by rw [← hr _ hx]; exact ex, fun y hy ey => h2 y hy (by rw [hr y hy]; exact ey)⟩
        exact ⟨rfl, hhi.unique chi, hc.unique cc⟩
  obtain ⟨k1, k2, k3⟩ := key
  exact ⟨k1, k2, by rw [t.apart, t'.apart, k1, k2], k3⟩
/-- What the row is while it is gone through. -/
def Inv (l0 : List Int) (l1 : List Bool) (m : List Int) : Prop := m.length = l0.length ∧ (∀ v ∈ m, Fits v) ∧ ∀ y ∈ places l0 l1, rd m y = rd l0 y
theorem Inv.set {l0 : List Int} {l1 : List Bool} {m : List Int} (h : Inv l0 l1 m) (j : Nat) (x : Int) (hx : Fits x) (hj : (l1.length : Int) ≤ j ∨ rdOf false l1 (j : Int) = false) : Inv l0 l1 (m.set j x) := by
  refine ⟨by rw [List.length_set]; exact h.1, fun v hv => ?_, fun y hy => ?_⟩
  · rcases List.mem_or_eq_of_mem_set hv with h1 | h1
    · exact h.2.1 v h1
    · rw [h1]; exact hx
  · have hy2 := (mem_places l0 l1 y).1 hy
    have hne : y.toNat ≠ j := by
      intro e
      have : y = (j : Int) := by omega
      subst this
      rcases hj with hj | hj
      · omega
      · rw [hj] at hy2; exact absurd hy2.2.2.2 (by simp)
    rw [rd_set_other m j x y hne]
    exact h.2.2 y hy
theorem take_places (l0 : List Int) (l1 : List Bool) (x : Int) : places (l0 ++ [x]) (l1.take (min l1.length l0.length)) = places l0 l1 := by
  unfold places
  rw [List.take_take, List.length_take, List.length_append]
  congr 1
  simp
theorem app_rd (l0 : List Int) (l1 : List Bool) (x : Int) : ∀ y ∈ places l0 l1, rd (l0 ++ [x]) y = rd l0 y := fun y hy => by
  have hy2 := (mem_places l0 l1 y).1 hy
  unfold rd
  rw [List.getD_eq_getElem?_getD, List.getD_eq_getElem?_getD, List.getElem?_append_left (by omega)]
theorem at_end (l0 : List Int) (l1 : List Bool) (a2 a3 : Int) (h0 : l0.length ≤ 60) (h1 : l1.length ≤ 60) (hf : ∀ v ∈ l0, Fits v) (hx : Fits a2) {lo hi ap c h : Int} (t : Tells l0 l1 lo hi ap c h) (m : List Int) (hm : Inv l0 l1 m) :
    Ev (fun k => potsherdlaw7_WearLooks.l0 k l0 l1 a2 a3 lo hi m (l0.length : Int) (l0.length : Int)) true := by
  have hml := hm.1
  obtain ⟨lo2, hi2, ap2, c2, h2, t2⟩ := tells m l1 (by omega) (by omega) hm.2.1
  obtain ⟨rfl, rfl, rfl, rfl⟩ := same (places_congr hml l1) hm.2.2 t t2
  obtain ⟨lo3, hi3, ap3, c3, h3, t3⟩ := tells (l0 ++ [a2]) (l1.take (min l1.length l0.length)) (by simp; omega) (by rw [List.length_take]; omega) (fun v hv => by
    rcases List.mem_append.1 hv with q | q
    · exact hf v q
    · rw [List.mem_singleton] at q; rw [q]; exact hx)
  obtain ⟨rfl, rfl, rfl, rfl⟩ := same (take_places l0 l1 a2) (app_rd l0 l1 a2) t t3
  have hmn : mn (l1.length : Int) (l0.length : Int) = ((min l1.length l0.length : Nat) : Int) := by unfold mn; split <;> omega
  refine Ev.step (f := fun k => (wear_Ends.f k m l1).bind fun bt200 => ((wear_Ends.f k (l0 ++ [a2]) (l1.take (min l1.length l0.length))).bind fun bt215 => (if lo = bt200.1 then (if hi = bt200.2 then (if lo = bt215.1 then (if hi = bt215.2 then ((wear_Due.f k l0 l1 a3).bind fun t217 => ((wear_Due.f k m l1 a3).bind fun t218 => (if t217 = t218 then ((wear_Coldest.f k l0 l1).bind fun t219 => ((wear_Coldest.f k m l1).bind fun t220 => (if t219 = t220 then ((potsherdlaw7_awake.f k).bind fun t221 => (some t221)) else (some false)))) else (some false)))) else (some false)) else (some false)) else (some false)) else (some false)))) (fun k => ?_) ?_
  · simp only [potsherdlaw7_WearLooks.l0]
    rw [if_neg (by omega), hmn]
    simp only [Option.bind_some, List.nil_append, List.length_nil, List.length_append, List.length_cons, Int.toNat_natCast]
    congr 1
    funext b
    rw [if_pos (show 0 + l0.length < 17592186044416 by omega), if_pos (show 0 + l0.length + (0 + 1) < 17592186044416 by omega), if_pos (by omega), if_pos (by omega)]
  · refine Ev.bind t2.e1 (Ev.bind t3.e1 ?_)
    refine Ev.congr (fun k => by rw [if_pos rfl, if_pos rfl, if_pos rfl, if_pos rfl]) ?_
    refine Ev.bind (t.due a3) (Ev.bind (t2.due a3) (Ev.congr (fun k => by rw [if_pos rfl]) ?_))
    refine Ev.bind t.c1 (Ev.bind t2.c1 (Ev.congr (fun k => by rw [if_pos rfl]) ?_))
    exact Ev.bind awake_ev (Ev.now _)
theorem loop (l0 : List Int) (l1 : List Bool) (a2 a3 : Int) (h0 : l0.length ≤ 60) (h1 : l1.length ≤ 60) (hf : ∀ v ∈ l0, Fits v) (hx : Fits a2) {lo hi ap c h : Int} (t : Tells l0 l1 lo hi ap c h) : ∀ (d j : Nat) (m : List Int), j + d = l0.length → Inv l0 l1 m →
    Ev (fun k => potsherdlaw7_WearLooks.l0 k l0 l1 a2 a3 lo hi m (l0.length : Int) (j : Int)) true
  | 0, j, m, hj, hm => by
    have : j = l0.length := by omega
    subst this
    exact at_end l0 l1 a2 a3 h0 h1 hf hx t m hm
  | d + 1, j, m, hj, hm => by
    have hml := hm.1
    have hw : wrap64 ((j : Int) + 1) = ((j + 1 : Nat) : Int) := by rw [w64 (by omega) (by omega)]; rfl
    by_cases q : (j : Int) ≥ (l1.length : Int)
    · refine Ev.step (fun k => ?_) (loop l0 l1 a2 a3 h0 h1 hf hx t d (j + 1) (m.set j a2) (by omega) (hm.set j a2 hx (.inl q)))
      simp only [potsherdlaw7_WearLooks.l0]
      rw [if_pos (by omega), if_pos q, if_pos (by omega), if_pos (by omega), hw]
      rfl
    · cases hb : rdOf false l1 (j : Int) with
      | true =>
        refine Ev.step (fun k => ?_) (loop l0 l1 a2 a3 h0 h1 hf hx t d (j + 1) m (by omega) hm)
        simp only [potsherdlaw7_WearLooks.l0]
        rw [if_pos (by omega), if_neg q, if_pos (by omega), if_pos (by omega), hb, if_pos rfl, hw]
      | false =>
        refine Ev.step (fun k => ?_) (loop l0 l1 a2 a3 h0 h1 hf hx t d (j + 1) (m.set j a2) (by omega) (hm.set j a2 hx (.inr hb)))
        simp only [potsherdlaw7_WearLooks.l0]
        rw [if_pos (by omega), if_neg q, if_pos (by omega), if_pos (by omega), hb, if_neg (by simp), if_pos (by omega), hw]
        rfl
theorem pure (l0 : List Int) (l1 : List Bool) (a2 a3 : Int) (hf : ∀ x ∈ l0, Fits x) (hx : Fits a2) : Ev (fun k => potsherdlaw7_WearLooks.f k l0 l1 a2 a3) true := by
  have hawake : ∀ b, b = true → Ev (fun k => potsherdlaw7_WearLooks.j0 k l0 l1 a2 a3 b) true := fun b hb => by
    subst hb
    refine Ev.step (f := fun k => (potsherdlaw7_awake.f k).bind fun t => some t) (fun k => ?_) (Ev.bind awake_ev (Ev.now _))
    simp only [potsherdlaw7_WearLooks.j0]
    rw [if_pos trivial]
  by_cases g0 : (l0.length : Int) > 60
  · exact Ev.congr (fun k => by unfold potsherdlaw7_WearLooks.f; rw [if_pos g0]) (hawake _ rfl)
  refine Ev.congr (fun k => by unfold potsherdlaw7_WearLooks.f; rw [if_neg g0]) ?_
  by_cases g1 : (l1.length : Int) > 60
  · exact hawake _ (by simpa using g1)
  obtain ⟨lo, hi, ap, c, h, t⟩ := tells l0 l1 (by omega) (by omega) hf
  refine Ev.step (f := fun k => (wear_Ends.f k l0 l1).bind fun b => potsherdlaw7_WearLooks.l0 k l0 l1 a2 a3 b.1 b.2 l0 (l0.length : Int) 0) (fun k => ?_) (Ev.bind t.e1 (loop l0 l1 a2 a3 (by omega) (by omega) hf hx t l0.length 0 l0 (by omega) ⟨rfl, hf, fun _ _ => rfl⟩))
  simp only [potsherdlaw7_WearLooks.j0]
  rw [if_neg (by simpa using g1)]
  congr 1
  funext b
  simp only [Option.bind_some, List.nil_append, List.length_nil]
  rw [if_pos (show 0 + l0.length < 17592186044416 by omega)]
theorem final {ok : Bool → Prop} (W : World) (A0 : Option Addr) (c0 : Nat) (l0 : List Int) (hc0 : l0.length ≤ c0) (hr0 : Kd.C (Kd.int .i64) W A0 l0.length l0) (hm0 : l0.length ≤ maxLen) (hok0 : ∀ x ∈ l0, (Lit.int .i64 x).wf = true)
    (A1 : Option Addr) (c1 : Nat) (l1 : List Bool) (hc1 : l1.length ≤ c1) (hr1 : Kd.C Kd.bool W A1 l1.length l1) (hm1 : l1.length ≤ maxLen) (hok1 : ∀ x ∈ l1, ok x) (a2 : Int) (w2 : (Lit.int .i64 a2).wf = true) (a3 : Int) (w3 : (Lit.int .i64 a3).wf = true) :
    Calls Try.prog 6 #[.slice A0 l0.length c0, .slice A1 l1.length c1, .int .i64 a2, .int .i64 a3] W fun e w' => e = .returned (.bool true) ∧ Below W.heap.size W w' := by
  obtain ⟨k, hk⟩ := (pure l0 l1 a2 a3 (fun x hx => fits_of (hok0 x hx)) (fits_of w2)).rounds
  exact potsherdlaw7_WearLooks.calls k A0 c0 l0 A1 c1 l1 a2 a3 true W hr0 hc0 hr1 hc1 rfl hk
end Go.Proofs.Ytdjcmefnnhfhpaa.Looks
