import Derived.Test.YtflaaphlghkpnaaTurns0
set_option linter.unusedVariables false
set_option linter.unusedSimpArgs false
namespace Go.Proofs.Ytflaaphlghkpnaa.Turns1
open Go.RowKit Go.Proofs.YtflaaphlghkpnaaW.PrintWords Go.Proofs.YtflaaphlghkpnaaW.PrintLast Go.Proofs.YtflaaphlghkpnaaW.PrintMore Go.Proofs.Ytflaaphlghkpnaa.PBlockOne Go.Proofs.Ytflaaphlghkpnaa.BlockPure Go.Proofs.Ytflaaphlghkpnaa.Turns0
attribute [local go_sem] max2_int min2_int max_two min_two max_three min_three max_four min_four

set_option maxHeartbeats 2000000 in
set_option maxRecDepth 100000 in
theorem short (W : World) (A0 : Option Addr) (c0 : Nat) (l : List S27) (a1 : Int) (h : l.length < 1 ∨ 60 < l.length) (hm : l.length ≤ 9223372036854775807) :
    Calls Try.prog 3 #[.slice A0 l.length c0, .int .i64 a1] W fun e w' => e = .returned (.bool true) ∧ Below W.heap.size W w' := by
  obtain ⟨k, haw⟩ := awake_ev.rounds
  rcases h with h | h
  · have h1 : ((l.length : Int) < 1) := by omega
    clear h
    go_enter Try.func3, Try.ntmps3
    go_wp2_with (go_at_call 12; refine (potsherdlaw8_awake.calls k true _ haw).mono ?_; rintro e w' ⟨rfl, hb⟩)
    go_ret
    exact ⟨rfl, hb⟩
  · have h1 : ¬ ((l.length : Int) < 1) := by omega
    have h2 : ((l.length : Int) > 60) := by omega
    clear h
    go_enter Try.func3, Try.ntmps3
    go_wp2_with (go_at_call 12; refine (potsherdlaw8_awake.calls k true _ haw).mono ?_; rintro e w' ⟨rfl, hb⟩)
    go_ret
    exact ⟨rfl, hb⟩

theorem cleans_at {k : Nat} {A : Option Addr} {c n : Nat} {l : List S27} {r : List Int} (w : World) (hn : l.length = n) (hr : Kd.C k27 w A n l) (hc : n ≤ c) (h : block_Cleans.f k l = some r) :
    Calls Try.prog 13 #[.slice A n c] w fun e w' => ∃ A1 c1, e = .returned (.slice A1 r.length c1) ∧ r.length ≤ c1 ∧ Kd.C (Kd.int .i64) w' A1 r.length r ∧ Below w.heap.size w w' := by
  subst hn
  refine (block_Cleans.calls k A c l r w hr hc h).mono ?_
  rintro e w' ⟨v, rfl, hR, hb⟩
  obtain ⟨A1, c1, rfl, h1, h2⟩ := Kd.R_reads hR
  exact ⟨A1, c1, rfl, h1, h2, hb⟩
theorem bad_at {k : Nat} {A : Option Addr} {c n : Nat} {l : List S27} {r : Int} (w : World) (hn : l.length = n) (hr : Kd.C k27 w A n l) (hc : n ≤ c) (h : block_Bad.f k l = some r) :
    Calls Try.prog 14 #[.slice A n c] w fun e w' => e = .returned (.int .i64 r) ∧ Below w.heap.size w w' := by
  subst hn
  exact block_Bad.calls k A c l r w hr hc h

theorem int_at {w : World} {k : IntKind} {A : Option Addr} {n : Nat} {xs : List Int} (h : (Kd.int k).C w A n xs) (j : Nat) (hj : j < n) : ∃ ad, A = some ad ∧ w.cell? (ad.add j) = some (.int k (xs.getD j 0)) := by
  obtain ⟨ad, c, e, _, hK, hc⟩ := Kd.C_get h 0 (j : Int) (by omega) (by omega)
  have hk : c = [.int k (xs.getD j 0)] := hK
  refine ⟨ad, e, ?_⟩
  have hz := hc 0 (.int k (xs.getD j 0)) (by rw [hk]; rfl)
  simpa [Kd.int, Kd.scalar] using hz
theorem take_getD (xs : List Int) (j : Nat) (h : j < xs.length) : xs.take (j + 1) = xs.take j ++ [xs.getD j 0] := by
  rw [List.take_succ_eq_append_getElem h, List.getD_eq_getElem?_getD, List.getElem?_eq_getElem h]
  rfl
/-- What is known of the two rows in a world. -/
structure Both (W W' : World) (ad : Addr) (g : Nat) (l m : List S27) : Prop where
  old : Kd.C k27 W' (some ad) l.length l
  new : Kd.C k27 W' (some ⟨g, 0, none⟩) l.length m
  below : Below W.heap.size W W'
theorem Both.step {W W1 W2 : World} {ad : Addr} {g : Nat} {l m : List S27} (h : Both W W1 ad g l m) (hb : Below W1.heap.size W1 W2) : Both W W2 ad g l m := ⟨Kd.C_below h.old hb, Kd.C_below h.new hb, below_step h.below hb⟩

set_option maxHeartbeats 4000000 in
set_option maxRecDepth 100000 in
theorem long (W : World) (A0 : Option Addr) (c0 : Nat) (l : List S27) (a1 : Int) (h0 : 1 ≤ l.length) (h1 : l.length ≤ 60) (hr : Kd.C k27 W A0 l.length l) (hc : l.length ≤ c0) (k : Nat) (hk : wrap64 (Int.tmod (IntKind.u64.wrap a1) (l.length : Int)) = (k : Int)) (hkl : k < l.length)
    (x : S27) (hx : l[k]? = some x) (kk : Nat) (haw : potsherdlaw8_awake.f kk = some true) (hcl : block_Cleans.f kk l = some (cl 0 l)) (hcm : block_Cleans.f kk (l.set k (turned x)) = some (cl 0 (l.set k (turned x)))) (bl bm : Int) (hbl : block_Bad.f kk l = some bl) (hbm : block_Bad.f kk (l.set k (turned x)) = some bm)
    (hd : wrap64 (bm - bl) = if x.f0 = true then 0 else 1) (hlf : block_Left.f kk true x.f1 x.f2 x.f3 9 = some 0) (hpl : cl 0 (l.set k (turned x)) = (cl 0 l).filter fun i => i != (k : Int)) :
    Calls Try.prog 3 #[.slice A0 l.length c0, .int .i64 a1] W fun e w' => e = .returned (.bool true) ∧ Below W.heap.size W w' := by
  have hu : IntKind.u64.wrap (l.length : Int) = (l.length : Int) := IntWalk.u64_in _ (by omega)
  have hne : ((l.length : Int) == 0) = false := by rw [beq_eq_false_iff_ne]; omega
  have h2 : ¬ ((l.length : Int) < 1) := by omega
  have h3 : ¬ ((l.length : Int) > 60) := by omega
  obtain ⟨ad, rfl⟩ : ∃ ad, A0 = some ad := by obtain ⟨ad, e, _⟩ := hr.2.2 (by omega); exact ⟨ad, e⟩
  obtain ⟨news, hnr, hnc⟩ := ReadsRow.inner_ hr
  have hnl : news.length = l.length * 4 := hnr.1
  have hn1 : ∀ u ∈ news, u.oneCell' = true := Kd.reps_one hnr (by decide) (fun _ _ h => k27.K_one h)
  obtain ⟨u0, hu0⟩ : ∃ u, news[k * 4]? = some u := ⟨_, List.getElem?_eq_getElem (by omega)⟩
  obtain ⟨i27, hi, hz0, hz1, hz2⟩ := info_parts info27
  have HI := Aside0.mk hi
  have HZ0 := Aside0.mk hz0
  have HZ1 := Aside0.mk hz1
  have HZ2 := Aside0.mk hz2
  have HNR := Aside0.mk hnr
  have HNC := Aside0.mk hnc
  have HNL := Aside0.mk hnl
  have HN1 := Aside0.mk hn1
  have HC := Aside0.mk hr
  have HCZ := Aside0.mk hc
  have HX := Aside0.mk hx
  have HU0 := Aside0.mk hu0
  have HCL := Aside0.mk hcl
  have HCM := Aside0.mk hcm
  have HBL := Aside0.mk hbl
  have HBM := Aside0.mk hbm
  have HAW := Aside0.mk haw
  have HD := Aside0.mk hd
  have HLF := Aside0.mk hlf
  have HPL := Aside0.mk hpl
  clear hlf hpl
  have HML := Aside0.mk (show (l.set k (turned x)).length = l.length by simp)
  clear hr hc hi hz0 hz1 hz2 hnr hnc hnl hn1 hx hu0 hcl hcm hbl hbm haw hd
  go_enter Try.func3, Try.ntmps3
  go_wp2_with ((with_reducible refine gate_dst (N := 31) rfl ?_); refine wpList_append_lies _ rfl (.tmp 29) (.tmp 30) 22 rfl W.heap.size 27 i27 (.agg #[(.bool false), (.int .i64 0), (.int .i64 0), (.slice none 0 0)]) 4 48 Try.underlying22 HI.out HZ0.out HZ1.out HZ2.out rfl (by omega) (.slice (some ⟨W.heap.size, 0, none⟩) 0 0) 0 [] rfl (own_empty W W.heap.size 27 4 (Nat.le_refl _)) ad l.length c0 news rfl HNL.out ?c2 HN1.out (by omega) (by unfold maxLen; omega) (by omega) (by simp) _ rfl ?_; (case c2 => exact fun j u hj => pw_cell_below (below_alloc (Below.refl _ _) _) (HNC.out j u hj)); intro g cap w2 hown hgrow hor hlt; simp only [Nat.zero_add, List.nil_append] at hown; have HO := Aside0.mk hown; have hGE : W.heap.size ≤ g := hor.elim (fun h => Nat.le_of_eq (by simpa [Value.ownBlock] using h)) (fun h => by rw [h]; simp); have GE := Aside0.mk hGE; have HB2 := Aside0.mk (pw_below_grown (below_alloc (Below.refl W.heap.size W) (.cells #[] 27)) _ (by simp) hgrow (fun q hq => by simp [Value.ownBlock] at hq; omega)); have hcell : w2.cell? ⟨g, k * 4, none⟩ = some u0 := (by have hz := hown.cells (g := g) rfl (k * 4) u0 HU0.out; rwa [add_plain] at hz); have hfz : w2.frozen? ⟨g, k * 4, none⟩ = false := (by obtain ⟨cur, hcur, _⟩ := own_at hown; exact blk_frozen hcur _); obtain ⟨_, _, hcap⟩ := own_at hown; have HCAP := Aside0.mk hcap; have HB3 := Aside0.mk (Below.setCell HB2.out (p := ⟨g, k * 4, none⟩) hGE (.bool true)); have HQ := Aside0.mk (Both.mk (W := W) (ad := ad) (g := g) (Kd.C_below HC.out HB3.out) (reads_set HNR.out HB2.out hown HX.out HB3.out) HB3.out); clear hown hgrow hor hlt hcap hGE HI HZ0 HZ1 HZ2 i27 HNR HNC HNL HN1)
  clear hcell hfz
  refine (cleans_at _ rfl HQ.out.old HCZ.out HCL.out).mono ?_
  rintro e w3 ⟨A6, c6, rfl, hl6, hC6, hb⟩
  have HQ3 := Aside0.mk (HQ.out.step hb)
  have HC6 := Aside0.mk hC6
  have HL6 := Aside0.mk hl6
  clear hC6 hb hl6 HQ HB3 HB2 HO
  go_wp2_with fail
  refine (cleans_at _ HML.out HQ3.out.new HCAP.out HCM.out).mono ?_
  rintro e w4 ⟨A7, c7, rfl, hl7, hC7, hb⟩
  have HQ4 := Aside0.mk (HQ3.out.step hb)
  have HC6' := Aside0.mk (Kd.C_below HC6.out hb)
  have HC7 := Aside0.mk hC7
  have HL7 := Aside0.mk hl7
  clear hC7 hb hl7 HQ3 HC6
  go_wp2_with fail
  refine (bad_at _ HML.out HQ4.out.new HCAP.out HBM.out).mono ?_
  rintro e w5 ⟨rfl, hb⟩
  have HQ5 := Aside0.mk (HQ4.out.step hb)
  have HC65 := Aside0.mk (Kd.C_below HC6'.out hb)
  have HC75 := Aside0.mk (Kd.C_below HC7.out hb)
  clear hb HQ4 HC6' HC7
  go_wp2_with fail
  refine (bad_at _ rfl HQ5.out.old HCZ.out HBL.out).mono ?_
  rintro e w6 ⟨rfl, hb⟩
  have HQ6 := Aside0.mk (HQ5.out.step hb)
  have HC66 := Aside0.mk (Kd.C_below HC65.out hb)
  have HC76 := Aside0.mk (Kd.C_below HC75.out hb)
  clear hb HQ5 HC65 HC75
  have hro : rd_T27 l (k : Int) = x := by simp [rd_T27, List.getD_eq_getElem?_getD, HX.out]
  have hrn : rd_T27 (l.set k (turned x)) (k : Int) = turned x := by simp [rd_T27, List.getD_eq_getElem?_getD, List.getElem?_set_self hkl]
  obtain ⟨ad', A3, c3, e3, hx0, -, -, -, -, -⟩ := at_T27 HQ6.out.old (k : Int) (by omega) (by omega)
  cases e3
  obtain ⟨ad', A4, c4, e4, hy0, hy1, hy2, hy3, hl4, hC4⟩ := at_T27 HQ6.out.new (k : Int) (by omega) (by omega)
  cases e4
  rw [hro] at hx0
  rw [hrn] at hy0 hy1 hy2 hy3 hl4 hC4
  simp only [Int.toNat_natCast, add_plain, turned] at hx0 hy0 hy1 hy2 hy3 hl4 hC4
  have HL4 := Aside0.mk hl4
  have HC4 := Aside0.mk hC4
  clear hl4 hC4 hro hrn
  have p1 : (0 : Int) ≤ (k : Int) := by omega
  have q1 : (k : Int) < (l.length : Int) := by omega
  have hd := HD.out
  have hLF : block_Left.f kk true x.f1 x.f2 x.f3 9 = some 0 := HLF.out
  have hle : (cl 0 l).length ≤ l.length := by rw [cl_length]; exact List.countP_le_length
  have hPL : (cl 0 (l.set k (turned x))).length = ((cl 0 l).filter fun i => i != (k : Int)).length := by rw [HPL.out]
  have hle2 : ((cl 0 l).filter fun i => i != (k : Int)).length ≤ (cl 0 l).length := List.length_filter_le _ _
  have HLE := Aside0.mk hle
  have HLE2 := Aside0.mk hle2
  have HPN := Aside0.mk hPL
  clear hPL hle hle2 hLF HBL HBM HCL HCM HX HU0 HML
  obtain ⟨L, hL⟩ : ∃ L, cl 0 l = L := ⟨_, rfl⟩
  obtain ⟨M, hM⟩ : ∃ M, cl 0 (l.set k (turned x)) = M := ⟨_, rfl⟩
  rw [hL, hM] at HPL
  rw [hL] at HLE HLE2 HC66 HL6 HPN
  rw [hM] at HPN HC76 HL7
  rw [hL, hM]
  clear hL hM
  cases hf : x.f0 with
  | _ =>
    rw [hf] at hd
    simp at hd
    rw [hf] at hx0
    go_wp2_with fail
    refine (block_Left.calls kk true x.f1 x.f2 A4 c4 x.f3 9 0 w6 HC4.out HL4.out HLF.out).mono ?_
    rintro e w7 ⟨rfl, hb⟩
    have HQ7 := Aside0.mk (HQ6.out.step hb)
    have HC67 := Aside0.mk (Kd.C_below HC66.out hb)
    have HC77 := Aside0.mk (Kd.C_below HC76.out hb)
    have HC47 := Aside0.mk (Kd.C_below HC4.out hb)
    replace hx0 := pw_cell_below hb hx0
    replace hy0 := pw_cell_below hb hy0
    replace hy1 := pw_cell_below hb hy1
    replace hy2 := pw_cell_below hb hy2
    replace hy3 := pw_cell_below hb hy3
    clear hb HQ6 HC66 HC76 HC4
    go_wp2_with fail
    refine (block_Clean.calls true x.f1 x.f2 A4 c4 x.f3 false w7 HC47.out HL4.out rfl).mono ?_
    rintro e w8 ⟨rfl, hb⟩
    have HQ8 := Aside0.mk (HQ7.out.step hb)
    have HC68 := Aside0.mk (Kd.C_below HC67.out hb)
    have HC78 := Aside0.mk (Kd.C_below HC77.out hb)
    clear hb HQ7 HC67 HC77 HC47 hx0 hy0 hy1 hy2 hy3 hd HD HL4
    clear hf
    go_wp2_with fail
    go_loopw [9, 83] (fun v9 v83 wr => ∃ j : Nat, j ≤ L.length ∧ v83 = .int .i64 (j : Int) ∧ Aside0 (Kd.R (Kd.int .i64) 3 wr w8.heap.size (fun _ => True) v9 ((L.take j).filter fun i => i != (k : Int))) ∧ Aside0 (Below w8.heap.size w8 wr)) (fun _ v83 _ => L.length - (intOf v83).toNat)
    case atStart => exact ⟨0, Nat.zero_le _, rfl, ⟨by simpa using Kd.R_nil _ _ _ _ _⟩, ⟨Below.refl _ _⟩⟩
    case round =>
      obtain ⟨j, hj, rfl, HR, HB⟩ := hrel
      by_cases hlt : j < L.length
      · obtain ⟨ad6, e6, hc6⟩ := int_at HC68.out j hlt
        cases e6
        have hv := pw_cell_below HB.out hc6
        have htk := Aside0.mk (take_getD L j hlt)
        have hlim := HLE.out
        clear hc6
        obtain ⟨v, hvv⟩ : ∃ v, L.getD j 0 = v := ⟨_, rfl⟩
        rw [hvv] at hv htk
        clear hvv
        cases hb : (v != (k : Int)) with
        | true =>
          go_wp2_with ((with_reducible refine gate_builtin (b := .append) (xs := #[.tmp 90, .tmp 92]) rfl ?_); at_builtin; refine Kd.R_append (Kd.int .i64) (w0 := w8) w8.heap.size rfl (.tmp 90) (.tmp 92) 28 3 (.int .i64 0) 8 rfl Try.underlying28 info3 rfl (by decide) (by omega) _ ((L.take j).filter fun i => i != (k : Int)) v [.int .i64 v] (fun _ => True) (fun _ => False) rfl rfl rfl (fun _ hk => hk.elim) (fun _ _ => trivial) HR.out HB.out HB.out.size ?aL ?_; (case aL => have := List.length_filter_le (fun i => i != (k : Int)) (L.take j); simp at this; omega); intro v1 w1 ho hb1 hg1 hat1; have HO := Aside0.mk ho; have HB1 := Aside0.mk hb1; clear ho hb1 hg1 hat1)
          go_roundw
          case rel => exact ⟨j + 1, by omega, by go_num, ⟨by rw [htk.out]; simpa [hb] using HO.out⟩, HB1⟩
          case measure => simp [intOf]; omega
        | false =>
          go_wp2_with fail
          go_roundw
          case rel => exact ⟨j + 1, by omega, by go_num, ⟨by rw [htk.out]; simpa [hb] using HR.out⟩, HB⟩
          case measure => simp [intOf]; omega
      · have hjL : j = L.length := by omega
        subst hjL
        rw [List.take_length, ← HPL.out] at HR
        obtain ⟨A9, c9, e9, hl9, hC9⟩ := Kd.R_reads HR.out
        subst e9
        have HC9 := Aside0.mk hC9
        have HC79 := Aside0.mk (Kd.C_below HC78.out HB.out)
        have HQ9 := Aside0.mk (HQ8.out.step HB.out)
        clear HR hC9
        go_wp2_with fail
        obtain ⟨w9, rfl⟩ : ∃ w9 : World, w9 = wr := ⟨_, rfl⟩
        go_loopw [102] (fun v102 wq => ∃ j : Nat, j ≤ M.length ∧ v102 = .int .i64 (j : Int) ∧ Aside0 (Below w9.heap.size w9 wq)) (fun v102 _ => M.length - (intOf v102).toNat)
        case atStart => exact ⟨0, Nat.zero_le _, rfl, ⟨Below.refl _ _⟩⟩
        case round =>
          obtain ⟨j, hj, rfl, HB9⟩ := hrel
          by_cases hlt : j < M.length
          · obtain ⟨ad7, e7, hc7⟩ := int_at HC79.out j hlt
            cases e7
            obtain ⟨ad9, e9, hc9⟩ := int_at HC9.out j hlt
            cases e9
            have hv7 := pw_cell_below HB9.out hc7
            have hv9 := pw_cell_below HB9.out hc9
            have hlim := HLE.out
            have hlim2 := HLE2.out
            have hml := HPN.out
            have hjM : (j : Int) < (M.length : Int) := by omega
            have hj0 : (0 : Int) ≤ (j : Int) := by omega
            have hML : (M.length : Int) ≤ 1000 := by omega
            clear hc7 hc9 hml hlim2
            go_wp2_with fail
            go_quiet (fail)
            go_wp2_with fail
            go_roundw
            case rel => exact ⟨j + 1, by omega, by go_num, ⟨pw_below_drewN HB9.out _⟩⟩
            case measure => simp [intOf]; omega
          · have HBW := Aside0.mk (below_step HQ9.out.below HB9.out)
            go_wp2_with fail
            refine (potsherdlaw8_awake.calls kk true _ HAW.out).mono ?_
            rintro e w10 ⟨rfl, hb⟩
            go_wp2_with fail
            go_ret
            exact ⟨rfl, below_step HBW.out hb⟩
end Go.Proofs.Ytflaaphlghkpnaa.Turns1
