import Derived.Test.YtdjcmefnnhfhpaaPure4
set_option linter.unusedVariables false
set_option linter.unusedSimpArgs false
/-! WearForms: always true. -/
namespace Go.Proofs.Ytdjcmefnnhfhpaa.Forms
open Go.RowKit Go.Proofs.YtdjcmefnnhfhpaaW.PrintWords Go.Proofs.YtdjcmefnnhfhpaaW.PrintLast Go.Proofs.YtdjcmefnnhfhpaaW.PrintMore Go.Proofs.Ytdjcmefnnhfhpaa.PAll Go.Proofs.Ytdjcmefnnhfhpaa.Iter Go.Proofs.Ytdjcmefnnhfhpaa.Pure1 Go.Proofs.Ytdjcmefnnhfhpaa.Pure2 Go.Proofs.Ytdjcmefnnhfhpaa.Pure3 Go.Proofs.Ytdjcmefnnhfhpaa.Pure4

theorem ints_loop (v : List Int) (hl : v.length ≤ 1000000) : ∀ (m j : Nat), j + m = v.length → Ev (fun k => potsherdref12_Ints.l0 k v v (v.length : Int) (j : Int)) true
  | 0, j, hm => by
    refine Ev.step (f := fun _ => some true) (fun k => ?_) (Ev.now _)
    simp only [potsherdref12_Ints.l0]
    rw [if_neg (by omega)]
  | m + 1, j, hm => by
    refine Ev.step (fun k => ?_) (ints_loop v hl m (j + 1) (by omega))
    simp only [potsherdref12_Ints.l0]
    rw [if_pos (by omega), if_pos (by omega), if_pos (by omega), if_pos (by omega), if_pos trivial, w64 (by omega) (by omega)]
    rfl
theorem ints_ev (v : List Int) (hl : v.length ≤ 1000000) : Ev (fun k => potsherdref12_Ints.f k v v) true :=
  Ev.congr (fun k => by unfold potsherdref12_Ints.f; rw [if_pos rfl]; rfl) (ints_loop v hl v.length 0 (by omega))
theorem bkts_len {l0 : List Int} {l1 : List Bool} {lo hi ap c h : Int} : (bkts l0 l1 lo ap).length ≤ 1000000 := by
  unfold bkts
  split
  · simp
  · rename_i hn
    rw [bumps_length, List.length_replicate]
    omega
theorem pure (l0 : List Int) (l1 : List Bool) (most : Int) (hw : ∀ x ∈ l0, Fits x) : Ev (fun k => potsherdlaw7_WearForms.f k l0 l1 most) true := by
  have hawake : ∀ b, b = true → Ev (fun k => potsherdlaw7_WearForms.j0 k l0 l1 most b) true := fun b hb => by
    subst hb
    refine Ev.step (f := fun k => (potsherdlaw7_awake.f k).bind fun t => some t) (fun k => ?_) (Ev.bind awake_ev (Ev.now _))
    simp only [potsherdlaw7_WearForms.j0]
    rw [if_pos trivial]
  by_cases g0 : (l0.length : Int) > 200
  · exact Ev.congr (fun k => by unfold potsherdlaw7_WearForms.f; rw [if_pos g0]) (hawake _ rfl)
  refine Ev.congr (fun k => by unfold potsherdlaw7_WearForms.f; rw [if_neg g0]) ?_
  by_cases g1 : (l1.length : Int) > 200
  · exact hawake _ (by simpa using g1)
  have h0 : l0.length ≤ 1000000 := by omega
  have h1 : l1.length ≤ 1000000 := by omega
  obtain ⟨lo, hi, ap, c, h, t⟩ := tells l0 l1 h0 h1 hw
  refine Ev.step (fun k => by simp only [potsherdlaw7_WearForms.j0]; rw [if_neg (by simpa using g1)]) ?_
  refine Ev.bind t.e1 (Ev.bind t.e2 ?_)
  refine Ev.congr (fun k => by rw [if_pos rfl, if_pos rfl]) ?_
  refine Ev.bind t.a1 (Ev.bind t.a2 (Ev.congr (fun k => by rw [if_pos rfl]) ?_))
  refine Ev.bind t.c1 (Ev.bind t.c2 (Ev.congr (fun k => by rw [if_pos rfl]) ?_))
  refine Ev.bind t.h1 (Ev.bind t.h2 (Ev.congr (fun k => by rw [if_pos rfl]) ?_))
  refine Ev.bind (t.due most) (Ev.bind (t.refDue most) (Ev.congr (fun k => by rw [if_pos rfl]) ?_))
  refine Ev.bind (wear_bkts h0 h1 t hw) (Ev.bind (ref_bkts h0 h1 t hw) (Ev.bind (ints_ev _ (bkts_len (hi := hi) (c := c) (h := h))) (Ev.congr (fun k => by rw [if_pos rfl]) ?_)))
  exact Ev.bind awake_ev (Ev.now _)
theorem fits_of {x : Int} (h : (Lit.int .i64 x).wf = true) : Fits x := by
  unfold Fits
  have h1 : IntKind.i64.min ≤ x ∧ x ≤ 9223372036854775807 := by simpa [Lit.wf] using h
  have h2 : IntKind.i64.min = -9223372036854775808 := by decide
  omega
theorem final {ok : Bool → Prop} (W : World) (A0 : Option Addr) (c0 : Nat) (l0 : List Int) (hc0 : l0.length ≤ c0) (hr0 : Kd.C (Kd.int .i64) W A0 l0.length l0) (hm0 : l0.length ≤ maxLen) (hok0 : ∀ x ∈ l0, (Lit.int .i64 x).wf = true)
    (A1 : Option Addr) (c1 : Nat) (l1 : List Bool) (hc1 : l1.length ≤ c1) (hr1 : Kd.C Kd.bool W A1 l1.length l1) (hm1 : l1.length ≤ maxLen) (hok1 : ∀ x ∈ l1, ok x) (a2 : Int) (w2 : (Lit.int .i64 a2).wf = true) :
    Calls Try.prog 3 #[.slice A0 l0.length c0, .slice A1 l1.length c1, .int .i64 a2] W fun e w' => e = .returned (.bool true) ∧ Below W.heap.size W w' := by
  obtain ⟨k, hk⟩ := (pure l0 l1 a2 (fun x hx => fits_of (hok0 x hx))).rounds
  exact potsherdlaw7_WearForms.calls k A0 c0 l0 A1 c1 l1 a2 true W hr0 hc0 hr1 hc1 hk
end Go.Proofs.Ytdjcmefnnhfhpaa.Forms
