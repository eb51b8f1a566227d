import Derived.Test.YtnfkegeboelaeaaRdr
import Derived.Test.YtnfkegeboelaeaaPl2
import Derived.Lib.SlBytesConst
set_option linter.unusedVariables false
set_option linter.unusedSimpArgs false
/-! awake: true. -/
namespace Go.Proofs.Ytnfkegeboelaeaa.Aw
open Go.RowKit Go.Proofs.YtnfkegeboelaeaaW.PrintWords Go.Proofs.YtnfkegeboelaeaaW.PrintLast Go.Proofs.YtnfkegeboelaeaaW.PrintMore Go.Proofs.Ytnfkegeboelaeaa.PAll Go.Proofs.Ytnfkegeboelaeaa.Rdr
attribute [local go_sem] max2_int min2_int max_two min_two max_three min_three max_four min_four

theorem n300 : bytes_Number.f 30 [] 300 = some [130, 44] := by decide +kernel
theorem tx : bytes_Text.f 30 [130, 44] [120] = some [130, 44, 1, 120] := by decide +kernel
theorem r300 : bytes_number.f 30 [130, 44, 1, 120] 1000 = some (300, 2) := by decide +kernel
theorem rx : bytes_number.f 30 [1, 120] 5 = some (1, 1) := by decide +kernel
theorem str4 : strOfNums [130, 44, 1, 120] = { data := #[130, 44, 1, 120] } := by decide +kernel
theorem str1 : strOfNums [120] = { data := #[120] } := by decide +kernel
theorem one_C (w : World) (v : Int) (fr : Nat × Nat) : Kd.C (Kd.int .u8) (w.alloc (.cells #[.int .u8 v] 5 fr)) (some ⟨w.heap.size, 0, none⟩) 1 [v] := by
  refine ⟨rfl, by omega, fun _ => ⟨_, rfl, fun j p hp => ?_⟩⟩
  match j, hp with
  | 0, hp =>
    obtain rfl : v = p := by simpa using hp
    refine ⟨[.int .u8 v], rfl, rfl, fun i u hu => ?_⟩
    match i, hu with
    | 0, hu =>
      obtain rfl : _ = u := by simpa using hu
      exact Cc.new_cell w _ 5 0 _ rfl fr
    | i + 1, hu => simp at hu
  | j + 1, hp => simp at hp
theorem conv {W : World} {A : Option Addr} {n c : Nat} {xs : List Int} {s : ByteArray} (h : Kd.C (Kd.int .u8) W A n xs) (hs : strOfNums xs = s) : (convert 22 9 (.slice A n c)).run Try.prog W = .ok (.string s) W := by
  rw [← hs]
  exact Kd.C_string Try.underlying22 Try.underlying5 Try.underlying9 h
/-- bytes.Number behind nothing. -/
theorem number0 (k : Nat) (n : Int) (r : List Int) (w : World) (h : bytes_Number.f k [] n = some r) :
    Calls Try.prog 10 #[.slice none 0 0, .int .i64 n] w fun e w' => ∃ A c, e = .returned (.slice A r.length c) ∧ r.length ≤ c ∧ Kd.C (Kd.int .u8) w' A r.length r ∧ Below w.heap.size w w' := by
  refine (bytes_Number.calls k (fun _ => True) none 0 [] n r w (Kd.V_nil _ _ _ _ _) h).mono ?_
  rintro e w' ⟨v, rfl, hR, hb⟩
  obtain ⟨A, c, rfl, h1, h2⟩ := Kd.R_reads hR
  exact ⟨A, c, rfl, h1, h2, hb⟩
theorem textC (k : Nat) (A0 : Option Addr) (c0 : Nat) (l0 : List Int) (A1 : Option Addr) (c1 : Nat) (l1 r : List Int) (w : World) (hr0 : Kd.C (Kd.int .u8) w A0 l0.length l0) (hc0 : l0.length ≤ c0) (hr1 : Kd.C (Kd.int .u8) w A1 l1.length l1) (hc1 : l1.length ≤ c1) (h : bytes_Text.f k l0 l1 = some r) :
    Calls Try.prog 12 #[.slice A0 l0.length c0, .slice A1 l1.length c1] w fun e w' => ∃ A c, e = .returned (.slice A r.length c) ∧ r.length ≤ c ∧ Kd.C (Kd.int .u8) w' A r.length r ∧ Below w.heap.size w w' := by
  refine (bytes_Text.calls k A0 c0 l0 A1 c1 l1 r w hr0 hc0 hr1 hc1 h).mono ?_
  rintro e w' ⟨v, rfl, hR, hb⟩
  obtain ⟨A, c, rfl, h1, h2⟩ := Kd.R_reads hR
  exact ⟨A, c, rfl, h1, h2, hb⟩
theorem C_none (w : World) : Kd.C (Kd.int .u8) w none 0 [] := ⟨rfl, by omega, fun h => by omega⟩
theorem number_nonempty {k n : Nat} {L : List Int} (h : bytes_Number.f k [] n = some L) : L ≠ [] := by
  obtain ⟨K, hK⟩ := Pl1.number_ev [] (by simp) (n : Int)
  have h1 := hK (K + k) (by omega)
  have h2 : bytes_Number.f (K + k) [] n = some L := at_rounds (bytes_Number.mono [] n) (by omega) h
  have h1' : bytes_Number.f (K + k) [] n = some ([] ++ Pl1.code (Pl1.clamp n)) := h1
  rw [h1'] at h2
  obtain rfl := Option.some.inj h2
  have := (Pl1.code_len (Pl1.clamp n) (Pl1.clamp_le n)).2
  intro e
  rw [List.nil_append] at e
  rw [e] at this
  simp at this
set_option maxHeartbeats 4000000 in
set_option maxRecDepth 100000 in
theorem awake (w : World) : Calls Try.prog 9 #[] w fun e w' => e = .returned (.bool true) ∧ Below w.heap.size w w' := by
  go_enter Try.func9, Try.ntmps9
  go_wp2_with (go_at_call 10; refine (number0 30 300 _ _ n300).mono ?_; rintro e w1 ⟨A1, c1, rfl, h1, hC1, hb1⟩; have HZ1 := Aside0.mk h1; have HC1 := Aside0.mk hC1; have HB1 := Aside0.mk hb1; have hcv := Lib.run_convert_bytes_const (P := Try.prog) w1 22 5 #[.int .u8 120] 1 1 Try.underlying22 Try.underlying5; clear h1 hC1 hb1)
  go_wp2_with fail
  refine (textC 30 A1 c1 [130, 44] (some ⟨w1.heap.size, 0, none⟩) 1 [120] _ _ (Kd.C_alloc HC1.out _) HZ1.out (one_C w1 120 _) (Nat.le_refl _) tx).mono ?_
  rintro e w2 ⟨A2, c2, rfl, h2, hC2, hb2⟩
  have HZ2 := Aside0.mk h2
  have HC2 := Aside0.mk hC2
  have HB2 := Aside0.mk (below_step (below_alloc HB1.out _) hb2)
  clear h2 hC2 hb2 HB1 HC1 HZ1 hcv
  go_wp2_with fail
  refine (newReader _ A2 c2 [130, 44, 1, 120] HC2.out HZ2.out (by decide)).mono ?_
  rintro e w3 ⟨g, w0, rfl, hI, hb, hB⟩
  have HI3 := Aside0.mk hI
  have HC3 := Aside0.mk (Kd.C_below (Kd.C_below HC2.out hb) hB)
  have HC0 := Aside0.mk (Kd.C_below HC2.out hb)
  have HW0 := Aside0.mk (below_step HB2.out hb)
  have HB3 := Aside0.mk hB
  clear hI hb hB HB2 HC2
  go_wp2_with fail
  refine (Rdr.number 30 w0 _ g [130, 44, 1, 120] 1000 300 2 HI3.out HB3.out r300 (by decide) (by decide)).mono ?_
  rintro e w4 ⟨rfl, hI, hB, -⟩
  have HI4 := Aside0.mk (show IsRd 53 w0 w4 g [1, 120] 0 from hI)
  have HB4 := Aside0.mk hB
  clear hI hB HI3 HB3 HC3
  go_wp2_with fail
  refine (Rdr.text 30 w0 _ g [1, 120] 5 1 1 HI4.out HB4.out rx (by decide) (by decide) (by decide) (by decide) (by decide)).mono ?_
  rintro e w5 ⟨v, rfl, hR, hI, hB, -⟩
  have HI5 := Aside0.mk (show IsRd 53 w0 w5 g [] 0 from hI)
  have HB5 := Aside0.mk hB
  obtain ⟨A5, c5, rfl, h5, hC5⟩ := Kd.R_reads (show Kd.R (Kd.int .u8) 5 w5 w0.heap.size _ v [120] from hR)
  have hs1 : (convert 22 9 (.slice A2 4 c2)).run Try.prog w5 = .ok (.string { data := #[130, 44, 1, 120] }) w5 := conv (Kd.C_below HC0.out hB) str4
  have hs2 : (convert 22 9 (.slice A5 1 c5)).run Try.prog w5 = .ok (.string { data := #[120] }) w5 := conv hC5 str1
  clear hI hB HI4 HB4 hR h5 hC5
  go_wp2_with (first | (go_at_call 19; refine (Rdr.left w0 _ g [] 0 HI5.out).mono ?_; rintro e w6 ⟨rfl, hb⟩; have HI6 := Aside0.mk (HI5.out.below hb); have HB6 := Aside0.mk (below_weaken HB5.out HB5.out.size hb); clear hb) | (go_at_call 20; refine (Rdr.err w0 _ g [] 0 HI6.out).mono ?_; rintro e w7 ⟨rfl, hb⟩; have HB7 := Aside0.mk (below_weaken HB6.out HB6.out.size hb); clear hb))
  go_ret
  exact ⟨rfl, below_step HW0.out HB7.out⟩
end Go.Proofs.Ytnfkegeboelaeaa.Aw
