import Derived.Test.YtnfkegeboelaeaaAw
import Derived.Test.YtnfkegeboelaeaaSt
import Derived.Test.YtnfkegeboelaeaaBounds
import Derived.Deep.RegionWith
import Derived.Deep.QuietTactic
import Derived.BigQuiet
import Derived.Deep.DeepCutAuto
set_option linter.unusedVariables false
set_option linter.unusedSimpArgs false
/-! BytesReads: always true. -/
namespace Go.Proofs.Ytnfkegeboelaeaa.PAll
open Go.RowKit Go.Proofs.YtnfkegeboelaeaaW.PrintWords Go.Proofs.YtnfkegeboelaeaaW.PrintLast Go.Proofs.YtnfkegeboelaeaaW.PrintMore
structure S35 where
  f0 : Int
  f1 : Int
def z35 : S35 := ⟨0, 0⟩
def k35 : Kd S35 := Kd.iso (Kd.pair (Kd.int .i64) (Kd.int .i64)) (fun x : S35 => (x.f0, x.f1))
theorem k35_open {w : World} {x : S35} {cs : List Value} (h : k35.K w x cs) : cs = [.int .i64 x.f0, .int .i64 x.f1] := by
  obtain ⟨c1, c2, rfl, h1, h2⟩ := h
  have e1 : c1 = [.int .i64 x.f0] := h1
  have e2 : c2 = [.int .i64 x.f1] := h2
  rw [e1, e2]; rfl
def rd_T35 (xs : List S35) (i : Int) : S35 := xs.getD i.toNat z35
theorem at_T35 {w : World} {A : Option Addr} {n : Nat} {xs : List S35} (h : Kd.C k35 w A n xs) (i : Int) (h0 : 0 ≤ i) (h1 : i < n) : ∃ ad, A = some ad ∧ w.cell? (ad.add (i.toNat * 2)) = some (.int .i64 (rd_T35 xs i).f0) ∧ w.cell? ⟨(ad.add (i.toNat * 2)).block, (ad.add (i.toNat * 2)).off + 1, none⟩ = some (.int .i64 (rd_T35 xs i).f1) := by
  obtain ⟨ad, c, e, _, hK, hc0⟩ := Kd.C_get h z35 i h0 h1
  obtain rfl := k35_open hK
  have hc : ∀ j u, [Value.int .i64 (rd_T35 xs i).f0, .int .i64 (rd_T35 xs i).f1][j]? = some u → w.cell? (ad.add (i.toNat * 2 + j)) = some u := hc0
  exact ⟨ad, e, hc 0 _ rfl, by rw [← add_field _ _ 1 (by omega)]; exact hc 1 _ rfl⟩
end Go.Proofs.Ytnfkegeboelaeaa.PAll
namespace Go.Proofs.Ytnfkegeboelaeaa.Reads
open Go.RowKit Go.Proofs.YtnfkegeboelaeaaW.PrintWords Go.Proofs.YtnfkegeboelaeaaW.PrintLast Go.Proofs.YtnfkegeboelaeaaW.PrintMore Go.Proofs.Ytnfkegeboelaeaa.PAll Go.Proofs.Ytnfkegeboelaeaa.Rdr Go.Proofs.Ytnfkegeboelaeaa.Aw Go.Proofs.Ytnfkegeboelaeaa.St
attribute [local go_sem] max2_int min2_int max_two min_two max_three min_three max_four min_four

theorem numStep_ok {l : List Int} (h : Fine l) (e most : Int) : ∃ v l' e', numStep l e most = (v, l', e') ∧ Fine l' := ⟨_, _, _, rfl, numStep_fine h e most⟩
theorem textStep_ok {l : List Int} (h : Fine l) (e most : Int) : ∃ s l' e', textStep l e most = (s, l', e') ∧ Fine l' := ⟨_, _, _, rfl, textStep_fine h e most⟩
/-- A block's cells behind a call that writes one other block. -/
theorem box_after {w w2 : World} {g b t : Nat} {cs : Array Value} (h : w.heap[b]? = some (.cells cs t (0, 0))) (hk : KeepBut w w2 g none) (hne : b ≠ g) : w2.heap[b]? = some (.cells cs t (0, 0)) := hk.blk h hne (by simp)
theorem box1 {w : World} {b t : Nat} {x y : Value} (h : w.heap[b]? = some (.cells #[x, y] t (0, 0))) : w.cell? ⟨b, 1, none⟩ = some y := (blk_cell h 1).trans rfl

set_option maxHeartbeats 8000000 in
set_option maxRecDepth 100000 in
theorem short (W : World) (A0 : Option Addr) (c0 : Nat) (b : List Int) (A1 : Option Addr) (c1 : Nat) (l : List S35) (h : 500 < b.length ∨ 100 < l.length) : Calls Try.prog 4 #[.slice A0 b.length c0, .slice A1 l.length c1] W fun e w' => e = .returned (.bool true) ∧ Below W.heap.size W w' := by
  by_cases h0 : 500 < b.length
  · have h1 : ((b.length : Int) > 500) := by omega
    clear h h0
    go_enter Try.func4, Try.ntmps4
    go_wp2_with (go_at_call 9; refine (Aw.awake _).mono ?_; rintro e w5 ⟨rfl, hb⟩; have HB5 := Aside0.mk hb; clear hb)
    go_ret
    exact ⟨rfl, HB5.out⟩
  · have h1 : ¬ ((b.length : Int) > 500) := by omega
    have h2 : ((l.length : Int) > 100) := by omega
    clear h h0
    go_enter Try.func4, Try.ntmps4
    go_wp2_with (go_at_call 9; refine (Aw.awake _).mono ?_; rintro e w5 ⟨rfl, hb⟩; have HB5 := Aside0.mk hb; clear hb)
    go_ret
    exact ⟨rfl, HB5.out⟩

set_option maxHeartbeats 8000000 in
set_option maxRecDepth 100000 in
theorem walk (W : World) (A0 : Option Addr) (c0 : Nat) (b : List Int) (A1 : Option Addr) (c1 : Nat) (l : List S35) (h0 : b.length ≤ 500) (h1 : l.length ≤ 100) (hr : Kd.C (Kd.int .u8) W A0 b.length b) (hc : b.length ≤ c0) (hf : Fine b) (hr1 : Kd.C k35 W A1 l.length l) :
    Calls Try.prog 4 #[.slice A0 b.length c0, .slice A1 l.length c1] W fun e w' => e = .returned (.bool true) ∧ Below W.heap.size W w' := by
  have g1 : ¬ ((b.length : Int) > 500) := by omega
  have g2 : ¬ ((l.length : Int) > 100) := by omega
  have HR := Aside0.mk hr
  have HC := Aside0.mk hc
  have HF := Aside0.mk hf
  have HR1 := Aside0.mk hr1
  have HN := Aside0.mk h1
  clear hr hc hf hr1 h0 h1
  go_enter Try.func4, Try.ntmps4
  go_wp2_with (go_at_call 14; refine (newReader _ A0 c0 b HR.out HC.out HF.out.2).mono ?_; rintro e w1 ⟨g, u, rfl, hI, hb, hB⟩; have HI1 := Aside0.mk hI; have HU := Aside0.mk hb; have HB1 := Aside0.mk hB; clear hI hb hB)
  obtain ⟨p, hp⟩ : ∃ p, w1.heap.size = p := ⟨_, rfl⟩
  have HG := Aside0.mk (show g ≠ p by have := HI1.out.lt; omega)
  have HW : Aside0 (IsRd 33 u (w1.alloc (.cells #[.slice A0 b.length c0, .int .i64 0] 33)) p b 0) := ⟨⟨A0, c0, by rw [← hp]; simpa using heap_alloc_new w1 _, by rw [← hp]; exact HB1.out.size, Kd.C_below HR.out HU.out, HC.out⟩⟩
  rw [hp]
  go_loopw [26] (fun v26 wr => ∃ (j : Nat) (lr : List Int) (e : Int), j ≤ l.length ∧ v26 = .int .i64 (j : Int) ∧ Aside0 (IsRd 53 u wr g lr e) ∧ Aside0 (IsRd 33 u wr p lr e) ∧ Aside0 (Fine lr) ∧ Aside0 (Below u.heap.size u wr)) (fun v26 _ => l.length - (intOf v26).toNat)
  case atStart => exact ⟨0, b, 0, Nat.zero_le _, rfl, ⟨HI1.out.below (below_alloc (Below.refl _ _) _)⟩, HW, HF, ⟨below_weaken HB1.out HB1.out.size (below_alloc (Below.refl _ _) _)⟩⟩
  case round =>
    clear HI1 HW HB1 HF
    obtain ⟨j, lr, e, hj, rfl, HI, HJ, HF, HB⟩ := hrel
    by_cases hlt : j < l.length
    · obtain ⟨ad, e1, hx0, hx1⟩ := at_T35 HR1.out (j : Int) (by omega) (by omega)
      cases e1
      have hbel := below_step HU.out HB.out
      replace hx0 := pw_cell_below hbel hx0
      replace hx1 := pw_cell_below hbel hx1
      simp only [Int.toNat_natCast] at hx0 hx1
      obtain ⟨q0, hq0⟩ : ∃ q, (rd_T35 l (j : Int)).f0 = q := ⟨_, rfl⟩
      obtain ⟨q1, hq1⟩ : ∃ q, (rd_T35 l (j : Int)).f1 = q := ⟨_, rfl⟩
      rw [hq0] at hx0
      rw [hq1] at hx1
      clear hq0 hq1 hbel
      have hw2 : wrap64 ((j : Int) + 1) = ((j + 1 : Nat) : Int) := by have := HN.out; unfold wrap64; omega
      by_cases hz : q0 = 0
      · subst hz
        obtain ⟨v, l', e', hst, hf'⟩ := numStep_ok HF.out e q1
        have HST := Aside0.mk hst
        have HF' := Aside0.mk hf'
        clear hst hf'
        go_upto_region 9 with fail
        obtain ⟨bx, hbx⟩ : ∃ bx, wr.heap.size = bx := ⟨_, rfl⟩
        have HBX : Aside0 ((wr.alloc (.cells #[.int .i64 0, .int .i64 q1] 35)).heap[bx]? = some (.cells #[.int .i64 0, .int .i64 q1] 35 (0, 0))) := ⟨by rw [← hbx]; simpa using heap_alloc_new wr _⟩
        rw [hbx]
        obtain ⟨ws, hws⟩ : ∃ ws, wr.alloc (.cells #[.int .i64 0, .int .i64 q1] 35) = ws := ⟨_, rfl⟩
        rw [hws] at HBX ⊢
        have HNg := Aside0.mk (show bx ≠ g by have := HI.out.lt; omega)
        have HNp := Aside0.mk (show bx ≠ p by have := HJ.out.lt; omega)
        have HIs : Aside0 (IsRd 53 u ws.drew g lr e) := ⟨by rw [← hws]; exact HI.out.below (below_drew (below_alloc (Below.refl _ _) _))⟩
        have HJs : Aside0 (IsRd 33 u ws.drew p lr e) := ⟨by rw [← hws]; exact HJ.out.below (below_drew (below_alloc (Below.refl _ _) _))⟩
        have HBs : Aside0 (Below u.heap.size u ws.drew) := ⟨by rw [← hws]; exact below_drew (below_weaken HB.out HB.out.size (below_alloc (Below.refl _ _) _))⟩
        have HBXd : Aside0 (ws.drew.heap[bx]? = some (.cells #[.int .i64 0, .int .i64 q1] 35 (0, 0))) := ⟨HBX.out⟩
        clear hbx hws hx0 hx1 HI HJ HB
        go_cut [9] (fun v9 wx => v9 = .bool true ∧ Aside0 (IsRd 53 u wx g l' e') ∧ Aside0 (IsRd 33 u wx p l' e') ∧ Aside0 (Below u.heap.size u wx))
        case first =>
          have hb1 := box1 HBX.out
          go_region_with (first | (go_at_call 15; have hcc := own_numberE HST.out HIs.out HBs.out HF.out; refine hcc.mono ?_; clear hcc; rintro ev w5 ⟨rfl, hI, hB, hK⟩; have HI5 := Aside0.mk hI; have HB5 := Aside0.mk hB; have HJ5 := Aside0.mk (HJs.out.but hK (Ne.symm HG.out)); have hb5 := box1 (box_after HBXd.out hK HNg.out); clear hI hB hK) | (go_at_call 16; have hcc := ref_numberE HST.out HJ5.out HB5.out HF.out; refine hcc.mono ?_; clear hcc; rintro ev w6 ⟨rfl, hI, hB, hK⟩; have HJ6 := Aside0.mk hI; have HB6 := Aside0.mk hB; have HI6 := Aside0.mk (HI5.out.but hK HG.out); clear hI hB hK))
          all_goals (go_wp2_with fail)
          all_goals (go_meet)
          all_goals (case rel => exact ⟨by first | rfl | simp, HI6, HJ6, HB6⟩)
        case rest =>
          obtain ⟨rfl, HI7, HJ7, HB7⟩ := hcut
          obtain ⟨A7, c7, hb7, -, -, -⟩ := HJ7.out
          obtain ⟨y0, y1, -, -⟩ := cells_of hb7
          clear hb7
          have k1 : ((l'.length : Int) != (l'.length : Int)) = false := by simp
          have k2 : ((e' : Int) != (e' : Int)) = false := by simp
          go_upto_region 11 with fail
          go_quiet (first | (go_at_call 19; refine Calls.quiet_of_same (leftQ u _ g l' e' ?_); exact HI7.out) | (go_at_call 20; refine Calls.quiet_of_same (errQ u _ g l' e' ?_); exact HI7.out))
          go_wp2
          go_roundw
          case measure => simp only [intOf]; omega
          case rel =>
            exact ⟨j + 1, l', e', by omega, by first | rfl | rw [hw2], ⟨HI7.out⟩, ⟨HJ7.out⟩, HF', ⟨pw_below_drewN HB7.out _⟩⟩
      · have hz0 : (q0 == 0) = false := by simpa using hz
        obtain ⟨s, l', e', hst, hf'⟩ := textStep_ok HF.out e q1
        obtain ⟨ss, hss⟩ : ∃ ss, strOfNums s = ss := ⟨_, rfl⟩
        have HSS := Aside0.mk hss
        clear hss
        have HST := Aside0.mk hst
        have HF' := Aside0.mk hf'
        clear hst hf'
        go_upto_region 10 with fail
        obtain ⟨bx, hbx⟩ : ∃ bx, wr.heap.size = bx := ⟨_, rfl⟩
        have HBX : Aside0 ((wr.alloc (.cells #[.int .i64 q0, .int .i64 q1] 35)).heap[bx]? = some (.cells #[.int .i64 q0, .int .i64 q1] 35 (0, 0))) := ⟨by rw [← hbx]; simpa using heap_alloc_new wr _⟩
        rw [hbx]
        obtain ⟨ws, hws⟩ : ∃ ws, wr.alloc (.cells #[.int .i64 q0, .int .i64 q1] 35) = ws := ⟨_, rfl⟩
        rw [hws] at HBX ⊢
        have HNg := Aside0.mk (show bx ≠ g by have := HI.out.lt; omega)
        have HNp := Aside0.mk (show bx ≠ p by have := HJ.out.lt; omega)
        have HIs : Aside0 (IsRd 53 u ws.drew g lr e) := ⟨by rw [← hws]; exact HI.out.below (below_drew (below_alloc (Below.refl _ _) _))⟩
        have HJs : Aside0 (IsRd 33 u ws.drew p lr e) := ⟨by rw [← hws]; exact HJ.out.below (below_drew (below_alloc (Below.refl _ _) _))⟩
        have HBs : Aside0 (Below u.heap.size u ws.drew) := ⟨by rw [← hws]; exact below_drew (below_weaken HB.out HB.out.size (below_alloc (Below.refl _ _) _))⟩
        have HBXd : Aside0 (ws.drew.heap[bx]? = some (.cells #[.int .i64 q0, .int .i64 q1] 35 (0, 0))) := ⟨HBX.out⟩
        clear hbx hws hx0 hx1 HI HJ HB
        go_cut [9] (fun v9 wx => v9 = .bool true ∧ Aside0 (IsRd 53 u wx g l' e') ∧ Aside0 (IsRd 33 u wx p l' e') ∧ Aside0 (Below u.heap.size u wx))
        case first =>
          have hb1 := box1 HBX.out
          have HPp := Aside0.mk HJs.out.lt
          go_region_with (first | (go_at_call 17; have hcc := own_textE HST.out HIs.out HBs.out HF.out; refine hcc.mono ?_; clear hcc; rintro ev w5 ⟨vt, rfl, hR, hI, hB, hK⟩; have HI5 := Aside0.mk hI; have HB5 := Aside0.mk hB; have HJ5 := Aside0.mk (HJs.out.but hK (Ne.symm HG.out)); have hb5 := box1 (box_after HBXd.out hK HNg.out); obtain ⟨A5, c5, rfl, hz5, hC5⟩ := Kd.R_reads hR; have HR5 := Aside0.mk hR; have hv5 := conv (c := c5) hC5 HSS.out; clear hI hB hK hR hz5 hC5) | (go_at_call 18; have hcc := ref_textE HST.out HJ5.out HB5.out HF.out; refine hcc.mono ?_; clear hcc; rintro ev w6 ⟨vt, rfl, hR, hI, hB, hK⟩; have HJ6 := Aside0.mk hI; have HB6 := Aside0.mk hB; have HI6 := Aside0.mk (HI5.out.but hK HG.out); obtain ⟨A6, c6, rfl, hz6, hC6⟩ := Kd.R_reads hR; have hv6 := conv (c := c6) hC6 HSS.out; obtain ⟨A7, c7, he7, hz7, hC7⟩ := Kd.R_reads (Kd.R_keep HR5.out hK (fun k_ hk => by have h1 := HPp.out; have h2 : ws.drew.heap.size ≤ k_ := hk; omega)); cases he7; have hv7 := conv (c := c5) hC7 HSS.out; clear hI hB hK hR hz6 hC6 hz7 hC7))
          all_goals (go_wp2_with fail)
          all_goals (go_meet)
          all_goals (case rel => exact ⟨by first | rfl | simp, HI6, HJ6, HB6⟩)
        case rest =>
          obtain ⟨rfl, HI7, HJ7, HB7⟩ := hcut
          obtain ⟨A7, c7, hb7, -, -, -⟩ := HJ7.out
          obtain ⟨y0, y1, -, -⟩ := cells_of hb7
          clear hb7
          have k1 : ((l'.length : Int) != (l'.length : Int)) = false := by simp
          have k2 : ((e' : Int) != (e' : Int)) = false := by simp
          go_upto_region 11 with fail
          go_quiet (first | (go_at_call 19; refine Calls.quiet_of_same (leftQ u _ g l' e' ?_); exact HI7.out) | (go_at_call 20; refine Calls.quiet_of_same (errQ u _ g l' e' ?_); exact HI7.out))
          go_wp2
          go_roundw
          case measure => simp only [intOf]; omega
          case rel =>
            exact ⟨j + 1, l', e', by omega, by first | rfl | rw [hw2], ⟨HI7.out⟩, ⟨HJ7.out⟩, HF', ⟨pw_below_drewN HB7.out _⟩⟩
    · have he : j = l.length := by omega
      subst he
      have hnl : ¬ (((l.length : Nat) : Int) < (l.length : Int)) := by omega
      go_wp2_with (go_at_call 9; refine (Aw.awake _).mono ?_; rintro ev w5 ⟨rfl, hb⟩; have HB5 := Aside0.mk (below_step (below_step HU.out HB.out) hb); clear hb)
      go_ret
      exact ⟨rfl, HB5.out⟩
theorem final {ok : S35 → Prop} (W : World) (A0 : Option Addr) (c0 : Nat) (l0 : List Int) (hc0 : l0.length ≤ c0) (hr0 : Kd.C (Kd.int .u8) W A0 l0.length l0) (hm0 : l0.length ≤ maxLen) (hok0 : ∀ x ∈ l0, (Lit.int .u8 x).wf = true)
    (A1 : Option Addr) (c1 : Nat) (l1 : List S35) (hc1 : l1.length ≤ c1) (hr1 : Kd.C k35 W A1 l1.length l1) (hm1 : l1.length ≤ maxLen) (hok1 : ∀ x ∈ l1, ok x) :
    Calls Try.prog 4 #[.slice A0 l0.length c0, .slice A1 l1.length c1] W fun e w' => e = .returned (.bool true) ∧ Below W.heap.size W w' := by
  by_cases h : 500 < l0.length ∨ 100 < l1.length
  · exact short W A0 c0 l0 A1 c1 l1 h
  · exact walk W A0 c0 l0 A1 c1 l1 (by omega) (by omega) hr0 hc0 ⟨Bounds.bytes_of hok0, by omega⟩ hr1
end Go.Proofs.Ytnfkegeboelaeaa.Reads
