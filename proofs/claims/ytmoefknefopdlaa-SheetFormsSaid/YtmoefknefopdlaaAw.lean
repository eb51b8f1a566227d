import Derived.Test.YtmoefknefopdlaaParse
import Derived.Lib.SlBytesConst
set_option linter.unusedVariables false
set_option linter.unusedSimpArgs false
/-! awake: true. -/
namespace Go.Proofs.Ytmoefknefopdlaa.Aw
open Go.RowKit Go.Proofs.YtmoefknefopdlaaW.PrintWords Go.Proofs.YtmoefknefopdlaaW.PrintLast Go.Proofs.YtmoefknefopdlaaW.PrintMore Go.Proofs.Ytmoefknefopdlaa.PAll Go.Proofs.Ytmoefknefopdlaa.Rdr Go.Proofs.Ytmoefknefopdlaa.Sp Go.Proofs.Ytmoefknefopdlaa.Pl1
attribute [local go_sem] max2_int min2_int max_two min_two max_three min_three max_four min_four

theorem code_small (n : Nat) (h : n < 128) : code n = [(n : Int)] := by
  unfold code
  rw [show n / 128 = 0 by omega, front_zero, List.nil_append, show n % 128 = n by omega]
theorem laid0 : laidL 0 1 [] = [0, 1, 0, 90] := by
  unfold laidL
  rw [show clamp 0 = 0 from clamp_of 0 (by omega), show clamp 1 = 1 from clamp_of 1 (by omega), code_small 0 (by omega), code_small 1 (by omega), List.length_nil, code_small 0 (by omega)]
  rfl
theorem laid3 : laidL 3 5 [97, 98] = [3, 5, 2, 97, 98, 90] := by
  unfold laidL
  rw [show clamp 3 = 3 from clamp_of 3 (by omega), show clamp 5 = 5 from clamp_of 5 (by omega), code_small 3 (by omega), code_small 5 (by omega), show ([97, 98] : List Int).length = 2 from rfl, code_small 2 (by omega)]
  rfl
theorem bytes0 : ∃ k, sheet_Bytes.f k 0 1 [] = some ([0, 1, 0, 90], 0) := by
  obtain ⟨k, hk⟩ := (bytes_ev 0 1 []).rounds
  refine ⟨k, hk.trans ?_⟩
  unfold bytesL
  rw [if_pos (mayB_iff.2 ⟨by decide, by decide, by decide, by decide, by decide, by rw [laid0]; decide⟩), laid0]
theorem parse3' : sheet_Parse.f [3, 5, 2, 97, 98, 90] = some (3, 5, [97, 98], 0) := by
  unfold sheet_Parse.f
  rw [if_pos (by decide), ← laid3, parse_laid (mayB_iff.2 ⟨by decide, by decide, by decide, by decide, by decide, by rw [laid3]; decide⟩)]
theorem str4 : strOfNums [0, 1, 0, 90] = { data := #[0, 1, 0, 90] } := by decide +kernel
theorem str2 : strOfNums [97, 98] = { data := #[97, 98] } := by decide +kernel
theorem num12 : sheet_Number.f 1 2 = some 8 := by decide +kernel
theorem conv {W : World} {A : Option Addr} {n c : Nat} {xs : List Int} {s : ByteArray} (h : Kd.C (Kd.int .u8) W A n xs) (hs : strOfNums xs = s) : (convert 22 9 (.slice A n c)).run Try.prog W = .ok (.string s) W := by
  rw [← hs]
  exact Kd.C_string Try.underlying22 Try.underlying5 Try.underlying9 h
theorem C_none (w : World) : Kd.C (Kd.int .u8) w none 0 [] := ⟨rfl, by omega, fun h => by omega⟩
theorem new_cell (w : World) (cs : Array Value) (t : TypeId) (j : Nat) (v : Value) (h : cs[j]? = some v) (fr : Nat × Nat := (0, 0)) : (w.alloc (.cells cs t fr)).cell? ((⟨w.heap.size, 0, none⟩ : Addr).add j) = some v := Cc.new_cell w cs t j v h fr
theorem lits_C (w : World) (xs : List Int) (hl : xs.length ≤ 9223372036854775807) (fr : Nat × Nat) : Kd.C (Kd.int .u8) (w.alloc (.cells (xs.map (Value.int .u8)).toArray 5 fr)) (some ⟨w.heap.size, 0, none⟩) xs.length xs := by
  refine ⟨rfl, hl, fun _ => ⟨_, rfl, fun j p hp => ?_⟩⟩
  refine ⟨[.int .u8 p], rfl, rfl, fun i u hu => ?_⟩
  match i, hu with
  | 0, hu =>
    obtain rfl : _ = u := by simpa using hu
    have := new_cell w (xs.map (Value.int .u8)).toArray 5 j (.int .u8 p) (by simp [hp]) fr
    simpa [Kd.int, Kd.scalar] using this
  | i + 1, hu => simp at hu
set_option maxHeartbeats 4000000 in
set_option maxRecDepth 100000 in
theorem awake (w : World) : Calls Try.prog 12 #[] w fun e w' => e = .returned (.bool true) ∧ Below w.heap.size w w' := by
  obtain ⟨kk, hkk⟩ := bytes0
  have HKK := Aside0.mk hkk
  clear hkk
  go_enter Try.func12, Try.ntmps12
  go_wp2_with fail
  refine (sheet_Bytes.calls kk 0 1 none 0 [] [0, 1, 0, 90] 0 _ (C_none _) (Nat.le_refl _) HKK.out).mono ?_
  rintro ev w1 ⟨v, rfl, hR, hb⟩
  obtain ⟨A1, c1, rfl, hz1, hC1⟩ := Kd.R_reads hR
  have HB1 := Aside0.mk hb
  have HC1 := Aside0.mk hC1
  clear hR hb hz1 hC1
  have kc := fun (w : World) (C : Array Value) (n c : Nat) => Lib.run_convert_bytes_const (P := Try.prog) w 22 5 C n c Try.underlying22 Try.underlying5
  go_wp2_with fail
  refine (sheet_Parse.calls (some ⟨w1.heap.size, 0, none⟩) 6 [3, 5, 2, 97, 98, 90] 3 5 [97, 98] 0 _ (lits_C w1 [3, 5, 2, 97, 98, 90] (by decide) _) (Nat.le_refl _) parse3').mono ?_
  rintro ev w2 ⟨v, rfl, hR, hb⟩
  obtain ⟨A2, c2, rfl, hz2, hC2⟩ := Kd.R_reads hR
  have hb2 := below_step (below_alloc (Below.refl _ _) _) hb
  have HB2 := Aside0.mk (below_step HB1.out hb2)
  have hs1 : (convert 22 9 (.slice A1 4 c1)).run Try.prog (w2.alloc (.cells #[.int .i64 3, .int .i64 5, .slice A2 2 c2] 24)) = .ok (.string { data := #[0, 1, 0, 90] }) (w2.alloc (.cells #[.int .i64 3, .int .i64 5, .slice A2 2 c2] 24)) := conv (Kd.C_alloc (Kd.C_below HC1.out hb2) _) str4
  have hs2 : (convert 22 9 (.slice A2 2 c2)).run Try.prog (w2.alloc (.cells #[.int .i64 3, .int .i64 5, .slice A2 2 c2] 24)) = .ok (.string { data := #[97, 98] }) (w2.alloc (.cells #[.int .i64 3, .int .i64 5, .slice A2 2 c2] 24)) := conv (Kd.C_alloc hC2 _) str2
  clear hR hb hz2 hC2 hb2 kc
  go_wp2_with fail
  refine (sheet_Number.calls 1 2 8 _ num12).mono ?_
  rintro ev w3 ⟨rfl, hd⟩
  obtain ⟨n, hn⟩ := hd.out
  subst hn
  go_wp2_with fail
  go_ret
  exact ⟨rfl, pw_below_drewN (below_step HB2.out (below_alloc (Below.refl _ _) _)) n⟩
end Go.Proofs.Ytmoefknefopdlaa.Aw
namespace Go.Proofs.Ytmoefknefopdlaa.PAll
open Go.RowKit Go.Proofs.YtmoefknefopdlaaW.PrintWords
def potsherdlaw5_awake.f : Option Bool := some true
theorem potsherdlaw5_awake.calls (r : Bool) (w : World) (h : potsherdlaw5_awake.f = some r) : Calls Try.prog 12 #[] w fun e w' => e = .returned (.bool r) ∧ Below w.heap.size w w' := by
  obtain rfl := Option.some.inj h
  exact Aw.awake w
end Go.Proofs.Ytmoefknefopdlaa.PAll
