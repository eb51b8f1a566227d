import Derived.Test.YtloldgiggnhemaaBl
set_option linter.unusedVariables false
set_option linter.unusedSimpArgs false
/-! What a block is: Clean, Left, Bad, Cleans, Counts; awake of the laws on blocks. -/
namespace Go.Proofs.Ytloldgiggnhemaa.Cm
open Go.RowKit Go.Proofs.YtloldgiggnhemaaW.PrintWords Go.Proofs.YtloldgiggnhemaaW.PrintLast Go.Proofs.YtloldgiggnhemaaW.PrintMore Go.Proofs.Ytloldgiggnhemaa.Kp Go.Proofs.Ytloldgiggnhemaa.Cp
attribute [local go_sem] max2_int min2_int max_two min_two max_three min_three max_four min_four

def okF (x : FB) : Bool := !x.bad && x.next == 0
theorem bcleanC (W : World) (bad : Bool) (next count : Int) (A : Option Addr) (m c : Nat) : Calls Try.prog 39 #[.agg #[.bool bad, .int .i64 next, .int .i64 count, .slice A m c]] W fun e w' => e = .returned (.bool (!bad && next == 0)) ∧ Below W.heap.size W w' := by
  cases bad
  · go_enter Try.func39, Try.ntmps39
    go_wp2_with fail
    go_ret
    exact ⟨by simp, below_alloc (Below.refl _ _) _⟩
  · go_enter Try.func39, Try.ntmps39
    go_wp2_with fail
    go_ret
    exact ⟨by simp, below_alloc (Below.refl _ _) _⟩
theorem bleftC (W : World) (next count pages : Int) (A : Option Addr) (m c : Nat) (h0 : 0 ≤ next) (h1 : next ≤ pages) (h2 : pages ≤ 1000) : Calls Try.prog 40 #[.agg #[.bool false, .int .i64 next, .int .i64 count, .slice A m c], .int .i64 pages] W fun e w' => e = .returned (.int .i64 (pages - next)) ∧ Below W.heap.size W w' := by
  by_cases h : pages ≤ next
  · have e : next = pages := by omega
    subst e
    clear h h1
    have hz : next - next = 0 := by omega
    rw [hz]
    clear hz
    go_enter Try.func40, Try.ntmps40
    go_wp2_with fail
    go_ret
    exact ⟨rfl, below_alloc (Below.refl _ _) _⟩
  · have d1 : decide (next ≥ pages) = false := decide_eq_false (by omega)
    have d1n : decide (pages ≤ next) = false := decide_eq_false h
    have e1 : wrap64 (pages - next) = pages - next := wrap_small _ (by omega) (by omega)
    have d2 : decide (pages - next < 0) = false := decide_eq_false (by omega)
    clear h
    go_enter Try.func40, Try.ntmps40
    go_wp2_with fail
    go_ret
    exact ⟨rfl, below_alloc (Below.refl _ _) _⟩
def badUpto (l : List FB) : Nat → Nat
  | 0 => 0
  | k + 1 => badUpto l k + (if (l.getD k zF).bad = true then 1 else 0)
theorem badUpto_le (l : List FB) : ∀ k, badUpto l k ≤ k
  | 0 => Nat.le_refl _
  | k + 1 => by
    have := badUpto_le l k
    unfold badUpto
    split <;> omega
set_option maxHeartbeats 4000000 in
set_option maxRecDepth 100000 in
theorem bbadC (w : World) (A : Option Addr) (c : Nat) (l : List FB) (hC : Kd.C kF w A l.length l) (hl : l.length ≤ 1000) :
    Calls Try.prog 38 #[.slice A l.length c] w fun e w' => e = .returned (.int .i64 (badUpto l l.length : Nat)) ∧ Below w.heap.size w w' := by
  have HC := Aside0.mk hC
  have HL := Aside0.mk hl
  clear hC hl
  go_enter Try.func38, Try.ntmps38
  go_wp2_with fail
  go_loopw [3, 8] (fun v3 v8 wr => ∃ k : Nat, k ≤ l.length ∧ v3 = .int .i64 (badUpto l k : Nat) ∧ v8 = .int .i64 (k : Int) ∧ Aside0 (Below w.heap.size w wr)) (fun _ v8 _ => l.length - (intOf v8).toNat)
  case atStart => exact ⟨0, Nat.zero_le _, rfl, rfl, ⟨Below.refl _ _⟩⟩
  case round =>
    obtain ⟨k, hk, rfl, rfl, HB⟩ := hrel
    by_cases hlt : k < l.length
    · have hlt2 : (k : Int) < (l.length : Int) := by omega
      have HLT := Aside0.mk hlt
      have hw2 : wrap64 ((k : Int) + 1) = ((k + 1 : Nat) : Int) := by rw [show (k : Int) + 1 = ((k + 1 : Nat) : Int) by omega]; exact wrap_small _ (by omega) (by have := HL.out; omega)
      have HCr := Aside0.mk (Kd.C_below HC.out HB.out)
      obtain ⟨ad, rfl, x0, x1, x2, x3⟩ := fbAt HCr.out k hlt
      obtain ⟨d, hd⟩ : ∃ d, l.getD k zF = d := ⟨_, rfl⟩
      rw [hd] at x0 x1 x2 x3
      have hu : badUpto l (k + 1) = badUpto l k + (if d.bad = true then 1 else 0) := by rw [← hd]; rfl
      have hle := badUpto_le l k
      obtain ⟨m, hm⟩ : ∃ m, badUpto l k = m := ⟨_, rfl⟩
      rw [hm] at hu hle ⊢
      have HM := Aside0.mk hle
      have HU := Aside0.mk hu
      have HB2 := Aside0.mk (below_step HB.out (below_alloc (Below.refl _ wr) (.cells #[.bool d.bad, .int .i64 d.next, .int .i64 d.count, .slice d.pg.1 d.pg.2.1 d.pg.2.2] 36)))
      clear hd hlt hk HCr hu hle hm
      cases hb : d.bad with
      | true =>
        have HU2 : Aside0 (badUpto l (k + 1) = m + 1) := ⟨by rw [HU.out, hb]; rfl⟩
        have hw3 : wrap64 ((m : Int) + 1) = ((m + 1 : Nat) : Int) := by rw [show (m : Int) + 1 = ((m + 1 : Nat) : Int) by omega]; exact wrap_small _ (by omega) (by have := HL.out; have := HM.out; have := HLT.out; omega)
        rw [hb] at x0
        rw [hb] at HB2
        clear hb
        go_wp2_with fail
        go_roundw
        case measure =>
          have hm : l.length - ((k + 1 : Nat) : Int).toNat < l.length - ((k : Nat) : Int).toNat := by
            rw [Int.toNat_natCast, Int.toNat_natCast]
            exact Nat.sub_lt_sub_left HLT.out (Nat.lt_succ_self k)
          first | exact hm | (rw [hw2]; exact hm)
        case rel => exact ⟨k + 1, HLT.out, by rw [HU2.out]; first | rw [hw3] | rfl, by first | rw [hw2] | rfl, HB2⟩
      | false =>
        have HU2 : Aside0 (badUpto l (k + 1) = m) := ⟨by rw [HU.out, hb]; rfl⟩
        rw [hb] at x0
        rw [hb] at HB2
        clear hb
        go_wp2_with fail
        go_roundw
        case measure =>
          have hm : l.length - ((k + 1 : Nat) : Int).toNat < l.length - ((k : Nat) : Int).toNat := by
            rw [Int.toNat_natCast, Int.toNat_natCast]
            exact Nat.sub_lt_sub_left HLT.out (Nat.lt_succ_self k)
          first | exact hm | (rw [hw2]; exact hm)
        case rel => exact ⟨k + 1, HLT.out, by rw [HU2.out], by first | rw [hw2] | rfl, HB2⟩
    · have he : k = l.length := by omega
      subst he
      have hn : ¬ (((l.length : Nat) : Int) < (l.length : Int)) := by omega
      clear hlt hk
      go_wp2_with fail
      go_ret
      exact ⟨rfl, HB.out⟩
def cleansUpto (l : List FB) : Nat → List Int
  | 0 => []
  | k + 1 => if okF (l.getD k zF) = true then cleansUpto l k ++ [(k : Int)] else cleansUpto l k
theorem cleansUpto_le (l : List FB) : ∀ k, (cleansUpto l k).length ≤ k
  | 0 => Nat.le_refl _
  | k + 1 => by
    have := cleansUpto_le l k
    unfold cleansUpto
    split
    · simp; omega
    · omega
set_option maxHeartbeats 4000000 in
set_option maxRecDepth 100000 in
theorem bcleansC (w : World) (A : Option Addr) (c : Nat) (l : List FB) (hC : Kd.C kF w A l.length l) (hl : l.length ≤ 1000) :
    Calls Try.prog 41 #[.slice A l.length c] w fun e w' => ∃ v, e = .returned v ∧ Kd.R (Kd.int .i64) 3 w' w.heap.size (fun _ => True) v (cleansUpto l l.length) ∧ Below w.heap.size w w' := by
  have HC := Aside0.mk hC
  have HL := Aside0.mk hl
  clear hC hl
  go_enter Try.func41, Try.ntmps41
  go_wp2_with fail
  go_loopw [3, 8] (fun v3 v8 wr => ∃ k : Nat, k ≤ l.length ∧ v8 = .int .i64 (k : Int) ∧ Aside0 (Kd.R (Kd.int .i64) 3 wr w.heap.size (fun _ => True) v3 (cleansUpto l k)) ∧ Aside0 (Below w.heap.size w wr)) (fun _ v8 _ => l.length - (intOf v8).toNat)
  case atStart => exact ⟨0, Nat.zero_le _, rfl, ⟨Kd.R_nil _ _ _ _ _⟩, ⟨Below.refl _ _⟩⟩
  case round =>
    obtain ⟨k, hk, rfl, HR, HB⟩ := hrel
    by_cases hlt : k < l.length
    · have hlt2 : (k : Int) < (l.length : Int) := by omega
      have HLT := Aside0.mk hlt
      have hw2 : wrap64 ((k : Int) + 1) = ((k + 1 : Nat) : Int) := by rw [show (k : Int) + 1 = ((k + 1 : Nat) : Int) by omega]; exact wrap_small _ (by omega) (by have := HL.out; omega)
      have HCr := Aside0.mk (Kd.C_below HC.out HB.out)
      obtain ⟨ad, rfl, x0, x1, x2, x3⟩ := fbAt HCr.out k hlt
      obtain ⟨d, hd⟩ : ∃ d, l.getD k zF = d := ⟨_, rfl⟩
      rw [hd] at x0 x1 x2 x3
      have hu : cleansUpto l (k + 1) = if okF d = true then cleansUpto l k ++ [(k : Int)] else cleansUpto l k := by rw [← hd]; rfl
      have hle := cleansUpto_le l k
      obtain ⟨m, hm⟩ : ∃ m, cleansUpto l k = m := ⟨_, rfl⟩
      rw [hm] at hu hle HR
      have HM := Aside0.mk hle
      have HU := Aside0.mk hu
      have HB2 := Aside0.mk (below_step HB.out (below_alloc (Below.refl _ wr) (.cells #[.bool d.bad, .int .i64 d.next, .int .i64 d.count, .slice d.pg.1 d.pg.2.1 d.pg.2.2] 36)))
      have HR2 := Aside0.mk (Kd.R_below HR.out (below_alloc (Below.refl _ wr) (.cells #[.bool d.bad, .int .i64 d.next, .int .i64 d.count, .slice d.pg.1 d.pg.2.1 d.pg.2.2] 36)))
      clear hd hlt hk HCr hu hle hm HR
      go_wp2_with fail
      refine (bcleanC _ d.bad d.next d.count d.pg.1 d.pg.2.1 d.pg.2.2).mono ?_
      rintro ev w3 ⟨rfl, hb3⟩
      have HB3 := Aside0.mk (below_step HB2.out hb3)
      have HR3 := Aside0.mk (Kd.R_below HR2.out hb3)
      clear hb3 HB2 HR2 x0 x1 x2 x3
      have hok : okF d = (!d.bad && d.next == 0) := rfl
      rw [← hok]
      cases hb : okF d with
      | true =>
        have HU2 : Aside0 (cleansUpto l (k + 1) = m ++ [(k : Int)]) := ⟨by rw [HU.out, hb]; rfl⟩
        clear hb hok
        go_wp2_with ((with_reducible refine gate_builtin (b := .append) (xs := #[.tmp 15, .tmp 17]) rfl ?_); at_builtin; refine Kd.R_append (Kd.int .i64) (w0 := w) w.heap.size rfl (.tmp 15) (.tmp 17) 42 3 (.int .i64 0) 8 rfl Try.underlying42 (by kernel_rfl) rfl (by decide) (by omega) _ m (k : Int) [.int .i64 (k : Int)] (fun _ => True) (fun _ => False) rfl rfl rfl (fun _ hk => hk.elim) (fun _ _ => trivial) HR3.out HB3.out HB3.out.size ?aL ?_; (case aL => have h1 := HM.out; have h2 := HLT.out; have h3 := HL.out; omega); intro v1 w1 ho hb1 hg1 hat1; have HO := Aside0.mk ho; have HB1 := Aside0.mk hb1; clear ho hb1 hg1 hat1)
        go_roundw
        case measure =>
          have hm : l.length - ((k + 1 : Nat) : Int).toNat < l.length - ((k : Nat) : Int).toNat := by
            rw [Int.toNat_natCast, Int.toNat_natCast]
            exact Nat.sub_lt_sub_left HLT.out (Nat.lt_succ_self k)
          first | exact hm | (rw [hw2]; exact hm)
        case rel => exact ⟨k + 1, HLT.out, by first | rw [hw2] | rfl, ⟨by rw [HU2.out]; exact HO.out⟩, HB1⟩
      | false =>
        have HU2 : Aside0 (cleansUpto l (k + 1) = m) := ⟨by rw [HU.out, hb]; rfl⟩
        clear hb hok
        go_wp2_with fail
        go_roundw
        case measure =>
          have hm : l.length - ((k + 1 : Nat) : Int).toNat < l.length - ((k : Nat) : Int).toNat := by
            rw [Int.toNat_natCast, Int.toNat_natCast]
            exact Nat.sub_lt_sub_left HLT.out (Nat.lt_succ_self k)
          first | exact hm | (rw [hw2]; exact hm)
        case rel => exact ⟨k + 1, HLT.out, by first | rw [hw2] | rfl, ⟨by rw [HU2.out]; exact HR3.out⟩, HB3⟩
    · have he : k = l.length := by omega
      subst he
      have hn : ¬ (((l.length : Nat) : Int) < (l.length : Int)) := by omega
      clear hlt hk
      go_wp2_with fail
      go_ret
      exact ⟨_, rfl, HR.out, HB.out⟩
set_option maxHeartbeats 4000000 in
set_option maxRecDepth 100000 in
theorem bcountsC (w : World) (A : Option Addr) (c : Nat) (l : List FB) (hC : Kd.C kF w A l.length l) (hl : l.length ≤ 1000) :
    Calls Try.prog 53 #[.slice A l.length c] w fun e w' => ∃ v xs, e = .returned v ∧ Kd.R (Kd.int .i64) 3 w' w.heap.size (fun _ => True) v xs ∧ xs.length = l.length ∧ Below w.heap.size w w' := by
  have HC := Aside0.mk hC
  have HL := Aside0.mk hl
  clear hC hl
  go_enter Try.func53, Try.ntmps53
  go_wp2_with fail
  go_loopw [3, 8] (fun v3 v8 wr => ∃ (k : Nat) (xs : List Int), k ≤ l.length ∧ v8 = .int .i64 (k : Int) ∧ Aside0 (Kd.R (Kd.int .i64) 3 wr w.heap.size (fun _ => True) v3 xs) ∧ Aside0 (xs.length = k) ∧ Aside0 (Below w.heap.size w wr)) (fun _ v8 _ => l.length - (intOf v8).toNat)
  case atStart => exact ⟨0, [], Nat.zero_le _, rfl, ⟨Kd.R_nil _ _ _ _ _⟩, ⟨rfl⟩, ⟨Below.refl _ _⟩⟩
  case round =>
    obtain ⟨k, xs, hk, rfl, HR, HXL, HB⟩ := hrel
    by_cases hlt : k < l.length
    · have hlt2 : (k : Int) < (l.length : Int) := by omega
      have HLT := Aside0.mk hlt
      have hw2 : wrap64 ((k : Int) + 1) = ((k + 1 : Nat) : Int) := by rw [show (k : Int) + 1 = ((k + 1 : Nat) : Int) by omega]; exact wrap_small _ (by omega) (by have := HL.out; omega)
      have HCr := Aside0.mk (Kd.C_below HC.out HB.out)
      obtain ⟨ad, rfl, x0, x1, x2, x3⟩ := fbAt HCr.out k hlt
      obtain ⟨d, hd⟩ : ∃ d, l.getD k zF = d := ⟨_, rfl⟩
      rw [hd] at x0 x1 x2 x3
      have HB2 := Aside0.mk (below_step HB.out (below_alloc (Below.refl _ wr) (.cells #[.bool d.bad, .int .i64 d.next, .int .i64 d.count, .slice d.pg.1 d.pg.2.1 d.pg.2.2] 36)))
      have HR2 := Aside0.mk (Kd.R_below HR.out (below_alloc (Below.refl _ wr) (.cells #[.bool d.bad, .int .i64 d.next, .int .i64 d.count, .slice d.pg.1 d.pg.2.1 d.pg.2.2] 36)))
      clear hd hlt hk HCr HR
      go_wp2_with ((with_reducible refine gate_builtin (b := .append) (xs := #[.tmp 12, .tmp 15]) rfl ?_); at_builtin; refine Kd.R_append (Kd.int .i64) (w0 := w) w.heap.size rfl (.tmp 12) (.tmp 15) 42 3 (.int .i64 0) 8 rfl Try.underlying42 (by kernel_rfl) rfl (by decide) (by omega) _ xs d.count [.int .i64 d.count] (fun _ => True) (fun _ => False) rfl ?ax rfl (fun _ hk => hk.elim) (fun _ _ => trivial) HR2.out HB2.out HB2.out.size ?aL ?_; (case ax => show (Value.slice (some ⟨wr.heap.size + 1, 0, none⟩) 1 1 : Value) = _; simp); (case aL => have h1 := HXL.out; have h2 := HLT.out; have h3 := HL.out; omega); intro v1 w1 ho hb1 hg1 hat1; have HO := Aside0.mk ho; have HB1 := Aside0.mk hb1; clear ho hb1 hg1 hat1)
      go_roundw
      case measure =>
        have hm : l.length - ((k + 1 : Nat) : Int).toNat < l.length - ((k : Nat) : Int).toNat := by
          rw [Int.toNat_natCast, Int.toNat_natCast]
          exact Nat.sub_lt_sub_left HLT.out (Nat.lt_succ_self k)
        first | exact hm | (rw [hw2]; exact hm)
      case rel => exact ⟨k + 1, _, HLT.out, by first | rw [hw2] | rfl, HO, ⟨by rw [List.length_append, HXL.out]; rfl⟩, HB1⟩
    · have he : k = l.length := by omega
      subst he
      have hn : ¬ (((l.length : Nat) : Int) < (l.length : Int)) := by omega
      clear hlt hk
      go_wp2_with fail
      go_ret
      exact ⟨_, rfl, xs, HR.out, HXL.out, HB.out⟩
def l8 : List FB := [⟨false, 0, 0, (none, 0, 0)⟩, ⟨false, 1, 3, (none, 0, 0)⟩, ⟨true, 0, 0, (none, 0, 0)⟩]
def c8 : Array Value := #[.bool false, .int .i64 0, .int .i64 0, .slice none 0 0, .bool false, .int .i64 1, .int .i64 3, .slice none 0 0, .bool true, .int .i64 0, .int .i64 0, .slice none 0 0]
theorem C8 {w : World} {b t : Nat} {fr : Nat × Nat} (h : w.heap[b]? = some (.cells c8 t fr)) : Kd.C kF w (some ⟨b, 0, none⟩) 3 l8 := by
  refine ⟨rfl, by decide, fun _ => ⟨_, rfl, fun j p hp => ?_⟩⟩
  have key : ∀ (o : Nat) (cs : List Value), cs.length = 4 → (∀ i u, cs[i]? = some u → c8[o * 4 + i]? = some u) → ∀ i u, cs[i]? = some u → w.cell? (Addr.add ⟨b, 0, none⟩ (o * kF.sz + i)) = some u := fun o cs _ hc i u hu => by
    rw [add_plain]
    exact (cell_of_row w b _ c8 t fr h).trans (hc i u hu)
  match j, hp with
  | 0, hp =>
    obtain rfl : (⟨false, 0, 0, (none, 0, 0)⟩ : FB) = p := by simpa [l8] using hp
    refine ⟨[.bool false, .int .i64 0, .int .i64 0, .slice none 0 0], rfl, kF.K_of_M (kF_mkM w 0 (fun _ => True) ⟨false, 0, 0, (none, 0, 0)⟩), key 0 _ rfl (fun i u hu => ?_)⟩
    match i, hu with
    | 0, hu => exact hu
    | 1, hu => exact hu
    | 2, hu => exact hu
    | 3, hu => exact hu
    | i + 4, hu => simp at hu
  | 1, hp =>
    obtain rfl : (⟨false, 1, 3, (none, 0, 0)⟩ : FB) = p := by simpa [l8] using hp
    refine ⟨[.bool false, .int .i64 1, .int .i64 3, .slice none 0 0], rfl, kF.K_of_M (kF_mkM w 0 (fun _ => True) ⟨false, 1, 3, (none, 0, 0)⟩), key 1 _ rfl (fun i u hu => ?_)⟩
    match i, hu with
    | 0, hu => exact hu
    | 1, hu => exact hu
    | 2, hu => exact hu
    | 3, hu => exact hu
    | i + 4, hu => simp at hu
  | 2, hp =>
    obtain rfl : (⟨true, 0, 0, (none, 0, 0)⟩ : FB) = p := by simpa [l8] using hp
    refine ⟨[.bool true, .int .i64 0, .int .i64 0, .slice none 0 0], rfl, kF.K_of_M (kF_mkM w 0 (fun _ => True) ⟨true, 0, 0, (none, 0, 0)⟩), key 2 _ rfl (fun i u hu => ?_)⟩
    match i, hu with
    | 0, hu => exact hu
    | 1, hu => exact hu
    | 2, hu => exact hu
    | 3, hu => exact hu
    | i + 4, hu => simp at hu
  | j + 3, hp => simp [l8] at hp
theorem c8_at {w : World} {b t : Nat} (h : w.heap[b]? = some (.cells c8 t (0, 0))) :
    (w.cell? ⟨b, 0, none⟩ = some (.bool false) ∧ w.cell? ⟨b, 1, none⟩ = some (.int .i64 0) ∧ w.cell? ⟨b, 2, none⟩ = some (.int .i64 0) ∧ w.cell? ⟨b, 3, none⟩ = some (.slice none 0 0)) ∧
    (w.cell? ⟨b, 4, none⟩ = some (.bool false) ∧ w.cell? ⟨b, 5, none⟩ = some (.int .i64 1) ∧ w.cell? ⟨b, 6, none⟩ = some (.int .i64 3) ∧ w.cell? ⟨b, 7, none⟩ = some (.slice none 0 0)) :=
  ⟨⟨(blk_cell h 0).trans rfl, (blk_cell h 1).trans rfl, (blk_cell h 2).trans rfl, (blk_cell h 3).trans rfl⟩, ⟨(blk_cell h 4).trans rfl, (blk_cell h 5).trans rfl, (blk_cell h 6).trans rfl, (blk_cell h 7).trans rfl⟩⟩
theorem l8_bad : badUpto l8 l8.length = 1 := by kernel_rfl
theorem l8_clean : cleansUpto l8 l8.length = [0] := by kernel_rfl
set_option maxHeartbeats 4000000 in
set_option maxRecDepth 100000 in
theorem awake8 (w : World) : Calls Try.prog 37 #[] w fun e w' => e = .returned (.bool true) ∧ Below w.heap.size w w' := by
  go_enter Try.func37, Try.ntmps37
  go_wp2_with fail
  obtain ⟨w1, hw1⟩ : ∃ w1, w.alloc (.cells c8 36) = w1 := ⟨_, rfl⟩
  obtain ⟨bx, hbx⟩ : ∃ b, w.heap.size = b := ⟨_, rfl⟩
  have hb1 : Below w.heap.size w w1 := by rw [← hw1]; exact below_alloc (Below.refl _ _) _
  have HX1 : Aside0 (w1.heap[bx]? = some (.cells c8 36 (0, 0))) := ⟨by rw [← hw1, ← hbx]; exact blk_new w _⟩
  unfold c8 at hw1
  rw [hw1, hbx]
  have HB1 := Aside0.mk hb1
  have HC1 := Aside0.mk (C8 HX1.out)
  clear hw1 hbx hb1
  refine (bcleansC w1 (some ⟨bx, 0, none⟩) 3 l8 HC1.out (by decide)).mono ?_
  rintro ev w2 ⟨v2, rfl, hR2, hb2⟩
  rw [l8_clean] at hR2
  obtain ⟨A2, c2, rfl, -, hC2⟩ := Kd.R_reads hR2
  have HC2 := Aside0.mk hC2
  have HB2 := Aside0.mk (below_step HB1.out hb2)
  have HX2 := Aside0.mk (blk_below HX1.out hb2)
  clear hR2 hC2 hb2 HX1 HB1 HC1
  obtain ⟨⟨y0, y1, y2, y3⟩, y4, y5, y6, y7⟩ := c8_at HX2.out
  go_wp2_with fail
  refine (bcleanC w2 false 0 0 none 0 0).mono ?_
  rintro ev w3 ⟨rfl, hb3⟩
  rw [show (!false && (0 : Int) == 0) = true from rfl]
  have HB3 := Aside0.mk (below_step HB2.out hb3)
  have HX3 := Aside0.mk (blk_below HX2.out hb3)
  have HC3 := Aside0.mk (Kd.C_below HC2.out hb3)
  clear hb3 HB2 HX2 HC2 y0 y1 y2 y3 y4 y5 y6 y7
  obtain ⟨-, y4, y5, y6, y7⟩ := c8_at HX3.out
  go_wp2_with fail
  refine (bcleanC w3 false 1 3 none 0 0).mono ?_
  rintro ev w4 ⟨rfl, hb4⟩
  rw [show (!false && (1 : Int) == 0) = false from rfl]
  have HB4 := Aside0.mk (below_step HB3.out hb4)
  have HX4 := Aside0.mk (blk_below HX3.out hb4)
  have HC4 := Aside0.mk (Kd.C_below HC3.out hb4)
  clear hb4 HB3 HX3 HC3 y4 y5 y6 y7
  go_wp2_with fail
  refine (bbadC w4 (some ⟨bx, 0, none⟩) 3 l8 (C8 HX4.out) (by decide)).mono ?_
  rintro ev w5 ⟨rfl, hb5⟩
  rw [l8_bad]
  have HB5 := Aside0.mk (below_step HB4.out hb5)
  have HX5 := Aside0.mk (blk_below HX4.out hb5)
  have HC5 := Aside0.mk (Kd.C_below HC4.out hb5)
  clear hb5 HB4 HX4 HC4
  obtain ⟨-, y4, y5, y6, y7⟩ := c8_at HX5.out
  obtain ⟨ad, rfl, y8⟩ := ints_at HC5.out 0 (by decide)
  have y9 : w5.cell? ad = some (.int .i64 0) := y8
  clear y8
  go_wp2_with fail
  refine (bleftC w5 1 3 4 none 0 0 (by decide) (by decide) (by decide)).mono ?_
  rintro ev w6 ⟨rfl, hb6⟩
  rw [show ((4 : Int) - 1) = 3 from rfl]
  have HB6 := Aside0.mk (below_step HB5.out hb6)
  have HX6 := Aside0.mk (blk_below HX5.out hb6)
  clear hb6 HB5 HX5 HC5 y4 y5 y6 y7 y9
  go_wp2_with fail
  refine (bcountsC w6 (some ⟨bx, 0, none⟩) 3 l8 (C8 HX6.out) (by decide)).mono ?_
  rintro ev w7 ⟨v7, xs, rfl, hR7, hxl, hb7⟩
  obtain ⟨A7, c7, rfl, -, -⟩ := Kd.R_reads hR7
  rw [hxl, show l8.length = 3 from rfl]
  have HB7 := Aside0.mk (below_step HB6.out hb7)
  clear hb7 hR7 hxl
  go_wp2_with fail
  go_ret
  exact ⟨rfl, HB7.out⟩
end Go.Proofs.Ytloldgiggnhemaa.Cm
