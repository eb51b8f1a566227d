import Derived.Test.YtmoefknefopdlaaLw
import Derived.Test.YtmoefknefopdlaaWTab
set_option linter.unusedVariables false
set_option linter.unusedSimpArgs false
/-! SheetForms: always true. -/
namespace Go.Proofs.Ytmoefknefopdlaa.Forms
open Go.RowKit Go.Proofs.YtmoefknefopdlaaW.PrintWords Go.Proofs.YtmoefknefopdlaaW.PrintLast Go.Proofs.YtmoefknefopdlaaW.PrintMore Go.Proofs.Ytmoefknefopdlaa.PAll Go.Proofs.Ytmoefknefopdlaa.Pl1 Go.Proofs.Ytmoefknefopdlaa.Pl2 Go.Proofs.Ytmoefknefopdlaa.St Go.Proofs.Ytmoefknefopdlaa.Sp Go.Proofs.Ytmoefknefopdlaa.Bd Go.Proofs.Ytmoefknefopdlaa.Lt Go.Proofs.Ytmoefknefopdlaa.Rdr Go.Proofs.Ytmoefknefopdlaa.Parse Go.Proofs.Ytmoefknefopdlaa.Lw
attribute [local go_sem] max2_int min2_int max_two min_two max_three min_three max_four min_four
theorem conv {W : World} {A : Option Addr} {n c : Nat} {xs : List Int} {s : ByteArray} (h : Kd.C (Kd.int .u8) W A n xs) (hs : strOfNums xs = s) : (convert 22 9 (.slice A n c)).run Try.prog W = .ok (.string s) W := by
  rw [← hs]
  exact Kd.C_string Try.underlying22 Try.underlying5 Try.underlying9 h
def f7r9.T : Bool × List (List Nat × List Nat) := (true, [([], []), ([0], [0]), ([], []), ([2], [2]), ([1, 3], [1, 3]), ([4], [4]), ([5], [5]), ([5], [5]), ([6, 7, 5], [5, 6, 7]), ([5, 8], [5, 8]), ([9, 5], [9]), ([10], [10]), ([10], [10]), ([11, 12, 10, 10], [10, 11, 12]), ([10, 13], [10, 13]), ([14, 13], [14]), ([15], [15]), ([15], [15]), ([16, 17, 15], [15, 16, 17]), ([15, 18], [15, 18]), ([19, 15], [19]), ([20], [20]), ([21, 20, 20], [20, 21]), ([20], [20]), ([23, 22, 20], [20, 23]), ([22, 24, 20], [20, 22, 24]), ([20, 25], [20, 25]), ([26, 24], [26]), ([27], [27]), ([27], [27]), ([28, 29, 27, 27], [27, 28, 29]), ([27], [27]), ([27], [27]), ([31, 32, 30, 27], [27, 31, 32]), ([30, 33, 27], [27, 30, 33]), ([27, 34], [27, 34]), ([35, 33], [35]), ([36], [36]), ([36], [36]), ([37, 38, 36], [36, 37, 38]), ([36, 39], [36, 39]), ([40, 36], [40]), ([41], [41]), ([41], [41]), ([42, 43, 41], [41, 42, 43]), ([41, 44], [41, 44]), ([45, 41], [45]), ([46, 46], [46]), ([46, 47], [46, 47]), ([48, 47, 0, 1, 2, 3, 4, 5, 6, 7, 8, 9, 10, 11, 12, 13, 14, 15, 16, 17, 18, 19, 20, 21, 22, 23, 24, 25, 26, 27, 28, 29, 30, 31, 32, 33, 34, 35, 36, 37, 38, 39, 40, 41, 42, 43, 44, 45, 46, 47, 48], [48])])
def f7r9.B : List Nat := [0, 1, 0, 4, 15, 31, 63, 63, 255, 511, 1023, 2047, 2047, 8191, 16383, 32767, 65535, 65535, 262143, 524287, 1048575, 2097151, 4194303, 2097151, 16777215, 33554431, 67108863, 134217727, 268435455, 268435455, 1073741823, 268435455, 268435455, 8589934591, 17179869183, 34359738367, 68719476735, 137438953471, 137438953471, 549755813887, 1099511627775, 2199023255551, 4398046511103, 4398046511103, 17592186044415, 35184372088831, 70368744177663, 140737488355327, 281474976710655, 562949953421311]
theorem f7r9.tab : rtab .any (opsOf Try.f7 9) = f7r9.T := by kernel_rfl
theorem f7r9.bits : waitsOk f7r9.T.2 f7r9.B = true := by kernel_rfl
/-- What stands ahead of the last region, and through it. -/
structure Held (W : World) (sb t1 t2 : Nat) (p q : Int) (v : Value) (P1 P2 : Int) (P3 : List Int) (A7 : Option Addr) (c7 : Nat) (A9 : Option Addr) (c9 : Nat) (X : Option Addr) (cx : Nat) (Y : Option Addr) (cy : Nat) (L : List Int) (w : World) : Prop where
  below : Below W.heap.size W w
  bs : w.heap[sb]? = some (.cells #[.int .i64 p, .int .i64 q, v] 24 (0, 0))
  b1 : w.heap[t1]? = some (.cells #[.int .i64 P1, .int .i64 P2, .slice A7 P3.length c7] 24 (0, 0))
  b2 : w.heap[t2]? = some (.cells #[.int .i64 P1, .int .i64 P2, .slice A9 P3.length c9] 24 (0, 0))
  C7 : Kd.C (Kd.int .u8) w A7 P3.length P3
  C9 : Kd.C (Kd.int .u8) w A9 P3.length P3
  CX : Kd.C (Kd.int .u8) w X L.length L
  CY : Kd.C (Kd.int .u8) w Y L.length L
section
variable {W w w' : World} {sb t1 t2 : Nat} {p q : Int} {v : Value} {P1 P2 : Int} {P3 : List Int} {A7 : Option Addr} {c7 : Nat} {A9 : Option Addr} {c9 : Nat} {X : Option Addr} {cx : Nat} {Y : Option Addr} {cy : Nat} {L : List Int}
theorem Held.step (h : Held W sb t1 t2 p q v P1 P2 P3 A7 c7 A9 c9 X cx Y cy L w) (hb : Below w.heap.size w w') : Held W sb t1 t2 p q v P1 P2 P3 A7 c7 A9 c9 X cx Y cy L w' :=
  ⟨below_step h.below hb, (hb.block sb (blk_lt h.bs)).trans h.bs, (hb.block t1 (blk_lt h.b1)).trans h.b1, (hb.block t2 (blk_lt h.b2)).trans h.b2, Kd.C_below h.C7 hb, Kd.C_below h.C9 hb, Kd.C_below h.CX hb, Kd.C_below h.CY hb⟩
theorem Held.held (h : Held W sb t1 t2 p q v P1 P2 P3 A7 c7 A9 c9 X cx Y cy L w) {s1 : ByteArray} (hs : strOfNums L = s1) :
    ((w.cell? ⟨t1, 0, none⟩ = some (.int .i64 P1) ∧ w.cell? ⟨t1, 1, none⟩ = some (.int .i64 P2) ∧ w.cell? ⟨t1, 2, none⟩ = some (.slice A7 P3.length c7)) ∧ (w.cell? ⟨t2, 0, none⟩ = some (.int .i64 P1) ∧ w.cell? ⟨t2, 1, none⟩ = some (.int .i64 P2) ∧ w.cell? ⟨t2, 2, none⟩ = some (.slice A9 P3.length c9)) ∧ (w.cell? ⟨sb, 0, none⟩ = some (.int .i64 p) ∧ w.cell? ⟨sb, 1, none⟩ = some (.int .i64 q) ∧ w.cell? ⟨sb, 2, none⟩ = some v)) ∧ (convert 22 9 (.slice X L.length cx)).run Try.prog w = .ok (.string s1) w ∧ (convert 22 9 (.slice Y L.length cy)).run Try.prog w = .ok (.string s1) w := by
  obtain ⟨a0, a1, a2, -⟩ := three h.b1
  obtain ⟨b0, b1, b2, -⟩ := three h.b2
  obtain ⟨c0, c1, c2, -⟩ := three h.bs
  exact ⟨⟨⟨a0, a1, a2⟩, ⟨b0, b1, b2⟩, ⟨c0, c1, c2⟩⟩, conv h.CX hs, conv h.CY hs⟩
end
theorem split_same (n : Int) : ∃ i k, sheet_Split.f n = some (i, k) ∧ potsherdref3_SplitPage.f n = some (i, k) := by
  unfold sheet_Split.f potsherdref3_SplitPage.f
  by_cases h1 : n < 1
  · exact ⟨_, _, by rw [if_pos h1], by rw [if_pos h1]⟩
  · by_cases h2 : n > 60
    · exact ⟨_, _, by rw [if_neg h1, if_pos h2], by rw [if_neg h1, if_pos h2]⟩
    · exact ⟨_, _, by rw [if_neg h1, if_neg h2], by rw [if_neg h1, if_neg h2]⟩
theorem number_same (n m : Int) : ∃ r, sheet_Number.f n m = some r ∧ potsherdref3_PageOf.f n m = some r := by
  unfold sheet_Number.f potsherdref3_PageOf.f
  by_cases h1 : n < 0
  · exact ⟨_, by rw [if_pos h1], by rw [if_pos h1]⟩
  · by_cases h2 : n ≥ 12
    · exact ⟨_, by rw [if_neg h1, if_pos h2], by rw [if_neg h1, if_pos h2]⟩
    · by_cases h3 : m < 0
      · exact ⟨_, by rw [if_neg h1, if_neg h2, if_pos h3], by rw [if_neg h1, if_neg h2, if_pos h3]⟩
      · by_cases h4 : m ≥ 5
        · exact ⟨_, by rw [if_neg h1, if_neg h2, if_neg h3, if_pos h4], by rw [if_neg h1, if_neg h2, if_neg h3, if_pos h4]⟩
        · exact ⟨_, by rw [if_neg h1, if_neg h2, if_neg h3, if_neg h4], by rw [if_neg h1, if_neg h2, if_neg h3, if_neg h4]⟩
set_option maxHeartbeats 8000000 in
set_option maxRecDepth 100000 in
theorem walk (W : World) (p q : Int) (A : Option Addr) (c : Nat) (d : List Int) (A1 : Option Addr) (c1 : Nat) (b : List Int) (node page : Int) (hz : d.length ≤ c) (hC : Kd.C (Kd.int .u8) W A d.length d) (hz1 : b.length ≤ c1) (hC1 : Kd.C (Kd.int .u8) W A1 b.length b) (hb : Bytes b) (h3 : d.length ≤ 3000) (hbl : b.length ≤ 3000) :
    Calls Try.prog 7 #[.agg #[.int .i64 p, .int .i64 q, .slice A d.length c], .slice A1 b.length c1, .int .i64 node, .int .i64 page] W fun e w' => e = .returned (.bool true) ∧ Below W.heap.size W w' := by
  obtain ⟨L, be, hLe⟩ : ∃ L be, bytesL p q d = (L, be) := ⟨_, _, rfl⟩
  obtain ⟨kk, hk1, hk2, hk3, hk4⟩ : ∃ k, sheet_May.f k p q d = some (mayB p q d) ∧ potsherdref3_MaySheet.f k p q d = some (mayB p q d) ∧ sheet_Bytes.f k p q d = some (L, be) ∧ potsherdref3_SheetBytes.f k p q d = some (L, be) := by
    obtain ⟨k1, e1⟩ := may_ev p q d
    obtain ⟨k2, e2⟩ := refMay_ev p q d
    obtain ⟨k3, e3⟩ := bytes_ev p q d
    obtain ⟨k4, e4⟩ := refBytes_ev p q d
    rw [hLe] at e3 e4
    exact ⟨k1 + k2 + k3 + k4, e1 _ (by omega), e2 _ (by omega), e3 _ (by omega), e4 _ (by omega)⟩
  obtain ⟨P1, P2, P3, pe, hPe⟩ : ∃ P1 P2 P3 pe, parseL b = (P1, P2, P3, pe) := ⟨_, _, _, _, rfl⟩
  obtain ⟨si, sk, hs1, hs2⟩ := split_same node
  obtain ⟨nn, hn1, hn2⟩ := number_same node page
  have HK1 := Aside0.mk hk1
  have HK2 := Aside0.mk hk2
  have HK3 := Aside0.mk hk3
  have HK4 := Aside0.mk hk4
  have HP1 := Aside0.mk (parse_some hb (by omega) hPe)
  have HP2 := Aside0.mk (show potsherdref3_ParseSheet.f b = some (P1, P2, P3, pe) by unfold potsherdref3_ParseSheet.f; rw [if_pos ⟨hb, by omega⟩, hPe])
  have HS_1 := Aside0.mk hs1
  have HS_2 := Aside0.mk hs2
  have HN1 := Aside0.mk hn1
  have HN2 := Aside0.mk hn2
  have HZ := Aside0.mk hz
  have HC := Aside0.mk hC
  have HZ1 := Aside0.mk hz1
  have HC1 := Aside0.mk hC1
  have H3 := Aside0.mk h3
  have hbl' : ¬ ((b.length : Int) > 3000) := by omega
  clear hk1 hk2 hk3 hk4 hLe hPe hs1 hs2 hn1 hn2 hz hC hz1 hC1 h3 hb hbl
  go_enter Try.func7, Try.ntmps7
  go_wp2_with fail
  obtain ⟨sb, hsb⟩ : ∃ sb, W.heap.size = sb := ⟨_, rfl⟩
  obtain ⟨w1, hw1⟩ : ∃ w1, W.alloc (.cells #[.int .i64 p, .int .i64 q, .slice A d.length c] 24) = w1 := ⟨_, rfl⟩
  have hs1 : sb + 1 = w1.heap.size := by rw [← hw1, ← hsb]; simp
  have HI1 : Aside0 (Inv W sb p q (.slice A d.length c) w1) := ⟨⟨by rw [← hw1]; exact below_alloc (Below.refl _ _) _, by rw [← hw1, ← hsb]; simpa using heap_alloc_new W _⟩⟩
  rw [hsb, hw1, hs1]
  clear hsb hw1 hs1
  refine (potsherdlaw5_light.calls 3 (some ⟨w1.heap.size, 0, none⟩) 1 [⟨p, q, d⟩] true _ (one_C HZ.out (HI1.out.C HC.out)) (Nat.le_refl _) (by rw [light1, decide_eq_true H3.out])).mono ?_
  rintro ev w2 ⟨rfl, hb⟩
  have HI2 := Aside0.mk ((HI1.out.step (below_alloc (Below.refl _ _) _)).step hb)
  clear hb HI1
  obtain ⟨q0, q1, q2, q3, q4, q5⟩ := three HI2.out.2
  go_wp2_with fail
  refine (sheet_Bytes.calls kk p q A c d L be _ (HI2.out.C HC.out) HZ.out HK3.out).mono ?_
  rintro ev w3 ⟨v, rfl, hR, hb⟩
  obtain ⟨X, cx, rfl, -, hCX⟩ := Kd.R_reads hR
  have HCX3 := Aside0.mk hCX
  have HI3 := Aside0.mk (HI2.out.step hb)
  clear hR hCX hb HI2 q0 q1 q2 q3 q4 q5
  obtain ⟨q0, q1, q2, q3, q4, q5⟩ := three HI3.out.2
  go_wp2_with fail
  refine (potsherdref3_SheetBytes.calls kk p q A c d L be _ (HI3.out.C HC.out) HZ.out HK4.out).mono ?_
  rintro ev w4 ⟨v, rfl, hR, hb⟩
  obtain ⟨Y, cy, rfl, -, hCY⟩ := Kd.R_reads hR
  have HCY4 := Aside0.mk hCY
  have HCX4 := Aside0.mk (Kd.C_below HCX3.out hb)
  have HI4 := Aside0.mk (HI3.out.step hb)
  clear hR hCY hb HI3 HCX3 q0 q1 q2 q3 q4 q5
  go_wp2_with fail
  refine (sheet_Parse.calls A1 c1 b P1 P2 P3 pe _ (HI4.out.C HC1.out) HZ1.out HP1.out).mono ?_
  rintro ev w5 ⟨v, rfl, hR, hb⟩
  obtain ⟨A7, c7, rfl, hz7, hC7⟩ := Kd.R_reads hR
  have HZ7 := Aside0.mk hz7
  obtain ⟨t1, w6, ht1, hw6, hb6, hx1⟩ : ∃ t1 w6, w5.heap.size = t1 ∧ w5.alloc (.cells #[.int .i64 P1, .int .i64 P2, .slice A7 P3.length c7] 24) = w6 ∧ Below w5.heap.size w5 w6 ∧ w6.heap[t1]? = some (.cells #[.int .i64 P1, .int .i64 P2, .slice A7 P3.length c7] 24 (0, 0)) := ⟨_, _, rfl, rfl, below_alloc (Below.refl _ _) _, by simpa using heap_alloc_new w5 _⟩
  have hb46 := below_step hb hb6
  have HI6 := Aside0.mk (HI4.out.step hb46)
  have HCX6 := Aside0.mk (Kd.C_below HCX4.out hb46)
  have HCY6 := Aside0.mk (Kd.C_below HCY4.out hb46)
  have HC76 := Aside0.mk (Kd.C_below hC7 hb6)
  have HX1 := Aside0.mk hx1
  clear hR hb hb6 hb46 hx1 hz7 hC7 HI4 HCX4 HCY4
  go_wp2_with fail
  clear ht1 hw6
  refine (potsherdref3_ParseSheet.calls A1 c1 b P1 P2 P3 pe _ (HI6.out.C HC1.out) HZ1.out HP2.out).mono ?_
  rintro ev w7 ⟨v, rfl, hR, hb⟩
  obtain ⟨A9, c9, rfl, hz9, hC9⟩ := Kd.R_reads hR
  have HZ9 := Aside0.mk hz9
  obtain ⟨t2, w8, ht2, hw8, hb8, hx2⟩ : ∃ t2 w8, w7.heap.size = t2 ∧ w7.alloc (.cells #[.int .i64 P1, .int .i64 P2, .slice A9 P3.length c9] 24) = w8 ∧ Below w7.heap.size w7 w8 ∧ w8.heap[t2]? = some (.cells #[.int .i64 P1, .int .i64 P2, .slice A9 P3.length c9] 24 (0, 0)) := ⟨_, _, rfl, rfl, below_alloc (Below.refl _ _) _, by simpa using heap_alloc_new w7 _⟩
  have hb68 := below_step hb hb8
  have HI8 := HI6.out.step hb68
  have HG8 : Aside0 (Held W sb t1 t2 p q (.slice A d.length c) P1 P2 P3 A7 c7 A9 c9 X cx Y cy L w8) := ⟨⟨HI8.1, HI8.2, (hb68.block t1 (blk_lt HX1.out)).trans HX1.out, hx2, Kd.C_below HC76.out hb68, Kd.C_below hC9 hb8, Kd.C_below HCX6.out hb68, Kd.C_below HCY6.out hb68⟩⟩
  clear hR hb hb8 hb68 hx2 hz9 hC9 HI6 HI8 HCX6 HCY6 HC76 HX1
  go_wp2_with fail
  clear ht2 hw8
  refine (sheet_Split.calls node si sk _ HS_1.out).mono ?_
  rintro ev w9 ⟨rfl, hd⟩
  have HG9 := Aside0.mk (HG8.out.step hd.below)
  clear hd HG8
  go_wp2_with fail
  refine (potsherdref3_SplitPage.calls node si sk _ HS_2.out).mono ?_
  rintro ev w10 ⟨rfl, hd⟩
  have HG10 := Aside0.mk (HG9.out.step hd.below)
  clear hd HG9
  go_upto_region 9 with fail
  obtain ⟨s1, hs1⟩ : ∃ s1, strOfNums L = s1 := ⟨_, rfl⟩
  have HS1 := Aside0.mk hs1
  have HGd : Aside0 (Held W sb t1 t2 p q (.slice A d.length c) P1 P2 P3 A7 c7 A9 c9 X cx Y cy L w10.drew) := ⟨HG10.out.step (below_drew (Below.refl _ _))⟩
  have z1 : (s1.toList == s1.toList) = true := by simp
  have z2 : (be == be) = true := by simp
  have z3 : (pe == pe) = true := by simp
  have z4 : (nn == nn) = true := by simp
  have z5 : (si == si) = true := by simp
  have z6 : (sk == sk) = true := by simp
  have z7 : (mayB p q d == mayB p q d) = true := by simp
  clear hs1 HG10
  refine start_ (n := 50) (S := fun w' => ((w'.cell? ⟨t1, 0, none⟩ = some (.int .i64 P1) ∧ w'.cell? ⟨t1, 1, none⟩ = some (.int .i64 P2) ∧ w'.cell? ⟨t1, 2, none⟩ = some (.slice A7 P3.length c7)) ∧ (w'.cell? ⟨t2, 0, none⟩ = some (.int .i64 P1) ∧ w'.cell? ⟨t2, 1, none⟩ = some (.int .i64 P2) ∧ w'.cell? ⟨t2, 2, none⟩ = some (.slice A9 P3.length c9)) ∧ (w'.cell? ⟨sb, 0, none⟩ = some (.int .i64 p) ∧ w'.cell? ⟨sb, 1, none⟩ = some (.int .i64 q) ∧ w'.cell? ⟨sb, 2, none⟩ = some (.slice A d.length c))) ∧ (convert 22 9 (.slice X L.length cx)).run Try.prog w' = .ok (.string s1) w' ∧ (convert 22 9 (.slice Y L.length cy)).run Try.prog w' = .ok (.string s1) w') (ds := []) #[false, false, false, false, false, false, false, false, false, false, false, false, false, false, false, false, false, false, false, false, false, false, false, false, false, false, false, false, false, false, false, false, false, false, false, false, false, false, false, false, false, false, false, false, false, false, false, false, false, false] (by kernel_rfl) rfl rfl (HGd.out.held HS1.out) (fun hHeld => ?_)
  refine with_tabW f7r9.tab f7r9.bits (fun HT_ HW_ => ?_)
  refine pure_ (i := 0) (N := (some 61)) (v := ?_) (a' := ?_) #[true, false, false, false, false, false, false, false, false, false, false, false, false, false, false, false, false, false, false, false, false, false, false, false, false, false, false, false, false, false, false, false, false, false, false, false, false, false, false, false, false, false, false, false, false, false, false, false, false, false] rfl rfl (any_of HT_.out (by kernel_rfl)) (fun _ _ _ h => h) (Or.inl ⟨by rfl, ?_⟩) ?_ ?_
  rotate_left
  · intro w'
    go_simp
    first | done | with_reducible rfl
  rotate_left
  · simp only [Act.put, List.setIfInBounds_toArray, List.set_cons_zero, List.set_cons_succ, i64_w, i32_w]
    rfl
  refine take_ (i := 1) (N := (some 62)) (v := ?_) (a' := ?_) #[true, true, false, false, false, false, false, false, false, false, false, false, false, false, false, false, false, false, false, false, false, false, false, false, false, false, false, false, false, false, false, false, false, false, false, false, false, false, false, false, false, false, false, false, false, false, false, false, false, false] rfl rfl (take_ofW HT_.out HW_.out (by kernel_rfl)) (fun _ _ _ h => h) (Or.inl ⟨by rfl, ?_⟩) hHeld ?_ ?_
  rotate_left
  · rintro w' ⟨⟨⟨a0, a1, a2⟩, ⟨b0, b1, b2⟩, ⟨e0, e1_, e2_⟩⟩, k0, k1⟩
    go_simp
    first | done | with_reducible rfl
  rotate_left
  · simp only [Act.put, List.setIfInBounds_toArray, List.set_cons_zero, List.set_cons_succ, i64_w, i32_w]
    rfl
  refine pure_ (i := 2) (N := (some 63)) (v := ?_) (a' := ?_) #[true, true, true, false, false, false, false, false, false, false, false, false, false, false, false, false, false, false, false, false, false, false, false, false, false, false, false, false, false, false, false, false, false, false, false, false, false, false, false, false, false, false, false, false, false, false, false, false, false, false] rfl rfl (any_of HT_.out (by kernel_rfl)) (fun _ _ _ h => h) (Or.inl ⟨by rfl, ?_⟩) ?_ ?_
  rotate_left
  · intro w'
    go_simp
    first | done | with_reducible rfl
  rotate_left
  · simp only [Act.put, List.setIfInBounds_toArray, List.set_cons_zero, List.set_cons_succ, i64_w, i32_w]
    rfl
  refine take_ (i := 3) (N := (some 64)) (v := ?_) (a' := ?_) #[true, true, true, true, false, false, false, false, false, false, false, false, false, false, false, false, false, false, false, false, false, false, false, false, false, false, false, false, false, false, false, false, false, false, false, false, false, false, false, false, false, false, false, false, false, false, false, false, false, false] rfl rfl (take_ofW HT_.out HW_.out (by kernel_rfl)) (fun _ _ _ h => h) (Or.inl ⟨by rfl, ?_⟩) hHeld ?_ ?_
  rotate_left
  · rintro w' ⟨⟨⟨a0, a1, a2⟩, ⟨b0, b1, b2⟩, ⟨e0, e1_, e2_⟩⟩, k0, k1⟩
    go_simp
    first | done | with_reducible rfl
  rotate_left
  · simp only [Act.put, List.setIfInBounds_toArray, List.set_cons_zero, List.set_cons_succ, i64_w, i32_w]
    rfl
  refine pure_ (i := 4) (N := (some 65)) (v := ?_) (a' := ?_) #[true, true, true, true, true, false, false, false, false, false, false, false, false, false, false, false, false, false, false, false, false, false, false, false, false, false, false, false, false, false, false, false, false, false, false, false, false, false, false, false, false, false, false, false, false, false, false, false, false, false] rfl rfl (any_of HT_.out (by kernel_rfl)) (fun _ _ _ h => h) (Or.inl ⟨by rfl, ?_⟩) ?_ ?_
  rotate_left
  · intro w'
    go_simp
    first | done | with_reducible rfl
  rotate_left
  · simp only [Act.put, List.setIfInBounds_toArray, List.set_cons_zero, List.set_cons_succ, i64_w, i32_w]
    rfl
  refine pure_ (i := 5) (N := (some 66)) (v := ?_) (a' := ?_) #[true, true, true, true, true, true, false, false, false, false, false, false, false, false, false, false, false, false, false, false, false, false, false, false, false, false, false, false, false, false, false, false, false, false, false, false, false, false, false, false, false, false, false, false, false, false, false, false, false, false] rfl rfl (any_of HT_.out (by kernel_rfl)) (fun _ _ _ h => h) (Or.inl ⟨by rfl, ?_⟩) ?_ ?_
  rotate_left
  · intro w'
    go_simp
    first | done | with_reducible rfl
  rotate_left
  · simp only [Act.put, List.setIfInBounds_toArray, List.set_cons_zero, List.set_cons_succ, i64_w, i32_w]
    rfl
  refine pure_ (i := 6) (N := (some 67)) (v := ?_) (a' := ?_) #[true, true, true, true, true, true, true, false, false, false, false, false, false, false, false, false, false, false, false, false, false, false, false, false, false, false, false, false, false, false, false, false, false, false, false, false, false, false, false, false, false, false, false, false, false, false, false, false, false, false] rfl rfl (any_of HT_.out (by kernel_rfl)) (fun _ _ _ h => h) (Or.inl ⟨by rfl, ?_⟩) ?_ ?_
  rotate_left
  · intro w'
    go_simp
    first | done | with_reducible rfl
  rotate_left
  · simp only [Act.put, List.setIfInBounds_toArray, List.set_cons_zero, List.set_cons_succ, i64_w, i32_w]
    rfl
  refine pure_ (i := 7) (N := (some 68)) (v := ?_) (a' := ?_) #[true, true, true, true, true, true, true, true, false, false, false, false, false, false, false, false, false, false, false, false, false, false, false, false, false, false, false, false, false, false, false, false, false, false, false, false, false, false, false, false, false, false, false, false, false, false, false, false, false, false] rfl rfl (any_of HT_.out (by kernel_rfl)) (fun _ _ _ h => h) (Or.inl ⟨by rfl, ?_⟩) ?_ ?_
  rotate_left
  · intro w'
    go_simp
    first | done | with_reducible rfl
  rotate_left
  · simp only [Act.put, List.setIfInBounds_toArray, List.set_cons_zero, List.set_cons_succ, i64_w, i32_w]
    rfl
  refine pure_ (i := 8) (N := (some 69)) (v := ?_) (a' := ?_) #[true, true, true, true, true, true, true, true, true, false, false, false, false, false, false, false, false, false, false, false, false, false, false, false, false, false, false, false, false, false, false, false, false, false, false, false, false, false, false, false, false, false, false, false, false, false, false, false, false, false] rfl rfl (any_of HT_.out (by kernel_rfl)) (fun _ _ _ h => h) (Or.inl ⟨by rfl, ?_⟩) ?_ ?_
  rotate_left
  · intro w'
    go_simp
    first | done | with_reducible rfl
  rotate_left
  · simp only [Act.put, List.setIfInBounds_toArray, List.set_cons_zero, List.set_cons_succ, i64_w, i32_w]
    rfl
  refine pure_ (i := 9) (N := (some 70)) (v := ?_) (a' := ?_) #[true, true, true, true, true, true, true, true, true, true, false, false, false, false, false, false, false, false, false, false, false, false, false, false, false, false, false, false, false, false, false, false, false, false, false, false, false, false, false, false, false, false, false, false, false, false, false, false, false, false] rfl rfl (any_of HT_.out (by kernel_rfl)) (fun _ _ _ h => h) (Or.inl ⟨by rfl, ?_⟩) ?_ ?_
  rotate_left
  · intro w'
    go_simp
    first | done | with_reducible rfl
  rotate_left
  · simp only [Act.put, List.setIfInBounds_toArray, List.set_cons_zero, List.set_cons_succ, i64_w, i32_w]
    rfl
  refine pure_ (i := 10) (N := (some 71)) (v := ?_) (a' := ?_) #[true, true, true, true, true, true, true, true, true, true, true, false, false, false, false, false, false, false, false, false, false, false, false, false, false, false, false, false, false, false, false, false, false, false, false, false, false, false, false, false, false, false, false, false, false, false, false, false, false, false] rfl rfl (any_of HT_.out (by kernel_rfl)) (fun _ _ _ h => h) (Or.inl ⟨by rfl, ?_⟩) ?_ ?_
  rotate_left
  · intro w'
    go_simp
    first | done | with_reducible rfl
  rotate_left
  · simp only [Act.put, List.setIfInBounds_toArray, List.set_cons_zero, List.set_cons_succ, i64_w, i32_w]
    rfl
  refine take_ (i := 11) (N := (some 72)) (v := ?_) (a' := ?_) #[true, true, true, true, true, true, true, true, true, true, true, true, false, false, false, false, false, false, false, false, false, false, false, false, false, false, false, false, false, false, false, false, false, false, false, false, false, false, false, false, false, false, false, false, false, false, false, false, false, false] rfl rfl (take_ofW HT_.out HW_.out (by kernel_rfl)) (fun _ _ _ h => h) (Or.inl ⟨by rfl, ?_⟩) hHeld ?_ ?_
  rotate_left
  · rintro w' ⟨⟨⟨a0, a1, a2⟩, ⟨b0, b1, b2⟩, ⟨e0, e1_, e2_⟩⟩, k0, k1⟩
    go_simp
    first | done | with_reducible rfl
  rotate_left
  · simp only [Act.put, List.setIfInBounds_toArray, List.set_cons_zero, List.set_cons_succ, i64_w, i32_w]
    rfl
  refine take_ (i := 12) (N := (some 73)) (v := ?_) (a' := ?_) #[true, true, true, true, true, true, true, true, true, true, true, true, true, false, false, false, false, false, false, false, false, false, false, false, false, false, false, false, false, false, false, false, false, false, false, false, false, false, false, false, false, false, false, false, false, false, false, false, false, false] rfl rfl (take_ofW HT_.out HW_.out (by kernel_rfl)) (fun _ _ _ h => h) (Or.inl ⟨by rfl, ?_⟩) hHeld ?_ ?_
  rotate_left
  · rintro w' ⟨⟨⟨a0, a1, a2⟩, ⟨b0, b1, b2⟩, ⟨e0, e1_, e2_⟩⟩, k0, k1⟩
    go_simp
    first | done | with_reducible rfl
  rotate_left
  · simp only [Act.put, List.setIfInBounds_toArray, List.set_cons_zero, List.set_cons_succ, i64_w, i32_w]
    rfl
  refine one_ (i := 13) (N := (some 74)) #[true, true, true, true, true, true, true, true, true, true, true, true, true, true, false, false, false, false, false, false, false, false, false, false, false, false, false, false, false, false, false, false, false, false, false, false, false, false, false, false, false, false, false, false, false, false, false, false, false, false] rfl rfl (one_of HT_.out (by kernel_rfl)) (by decide) (fun K hK => ?_)
  refine goes_ Try.func15 (by kernel_rfl) rfl #[.agg #[.int .i64 P1, .int .i64 P2, .slice A7 P3.length c7], .agg #[.int .i64 P1, .int .i64 P2, .slice A9 P3.length c9]] (by rfl) rfl rfl (by (try simp only [List.map_toArray, List.map_cons, List.map_nil]); first | done | rfl) ?_
  with_reducible refine (potsherdref3_SameSheet.calls P1 P2 A7 c7 P3 P1 P2 A9 c9 P3 true _ HGd.out.C7 HZ7.out HGd.out.C9 HZ9.out (same_self P1 P2 P3)).mono ?_
  rintro ev_ v1 ⟨rfl, hb⟩
  refine ⟨_, rfl, ?_⟩
  have Hv1 := Aside0.mk (HGd.out.step hb)
  clear hb
  refine hK.out _ _ (Hv1.out.held HS1.out) (fun hHeld => ?_)
  clear hK K
  refine norm_ (a' := ?_) ?_ ?_
  rotate_left
  · show Act.put _ (some 74) _ = _
    simp only [Act.put, List.setIfInBounds_toArray, List.set_cons_zero, List.set_cons_succ, i64_w, i32_w]
    rfl
  refine pure_ (i := 14) (N := (some 75)) (v := ?_) (a' := ?_) #[true, true, true, true, true, true, true, true, true, true, true, true, true, true, true, false, false, false, false, false, false, false, false, false, false, false, false, false, false, false, false, false, false, false, false, false, false, false, false, false, false, false, false, false, false, false, false, false, false, false] rfl rfl (any_of HT_.out (by kernel_rfl)) (fun _ _ _ h => h) (Or.inl ⟨by rfl, ?_⟩) ?_ ?_
  rotate_left
  · intro w'
    go_simp
    first | done | with_reducible rfl
  rotate_left
  · simp only [Act.put, List.setIfInBounds_toArray, List.set_cons_zero, List.set_cons_succ, i64_w, i32_w]
    rfl
  refine pure_ (i := 15) (N := (some 76)) (v := ?_) (a' := ?_) #[true, true, true, true, true, true, true, true, true, true, true, true, true, true, true, true, false, false, false, false, false, false, false, false, false, false, false, false, false, false, false, false, false, false, false, false, false, false, false, false, false, false, false, false, false, false, false, false, false, false] rfl rfl (any_of HT_.out (by kernel_rfl)) (fun _ _ _ h => h) (Or.inl ⟨by rfl, ?_⟩) ?_ ?_
  rotate_left
  · intro w'
    go_simp
    first | done | with_reducible rfl
  rotate_left
  · simp only [Act.put, List.setIfInBounds_toArray, List.set_cons_zero, List.set_cons_succ, i64_w, i32_w]
    rfl
  refine pure_ (i := 16) (N := (some 77)) (v := ?_) (a' := ?_) #[true, true, true, true, true, true, true, true, true, true, true, true, true, true, true, true, true, false, false, false, false, false, false, false, false, false, false, false, false, false, false, false, false, false, false, false, false, false, false, false, false, false, false, false, false, false, false, false, false, false] rfl rfl (any_of HT_.out (by kernel_rfl)) (fun _ _ _ h => h) (Or.inl ⟨by rfl, ?_⟩) ?_ ?_
  rotate_left
  · intro w'
    go_simp
    first | done | with_reducible rfl
  rotate_left
  · simp only [Act.put, List.setIfInBounds_toArray, List.set_cons_zero, List.set_cons_succ, i64_w, i32_w]
    rfl
  refine pure_ (i := 17) (N := (some 78)) (v := ?_) (a' := ?_) #[true, true, true, true, true, true, true, true, true, true, true, true, true, true, true, true, true, true, false, false, false, false, false, false, false, false, false, false, false, false, false, false, false, false, false, false, false, false, false, false, false, false, false, false, false, false, false, false, false, false] rfl rfl (any_of HT_.out (by kernel_rfl)) (fun _ _ _ h => h) (Or.inl ⟨by rfl, ?_⟩) ?_ ?_
  rotate_left
  · intro w'
    go_simp
    first | done | with_reducible rfl
  rotate_left
  · simp only [Act.put, List.setIfInBounds_toArray, List.set_cons_zero, List.set_cons_succ, i64_w, i32_w]
    rfl
  refine pure_ (i := 18) (N := (some 79)) (v := ?_) (a' := ?_) #[true, true, true, true, true, true, true, true, true, true, true, true, true, true, true, true, true, true, true, false, false, false, false, false, false, false, false, false, false, false, false, false, false, false, false, false, false, false, false, false, false, false, false, false, false, false, false, false, false, false] rfl rfl (any_of HT_.out (by kernel_rfl)) (fun _ _ _ h => h) (Or.inl ⟨by rfl, ?_⟩) ?_ ?_
  rotate_left
  · intro w'
    go_simp
    first | done | with_reducible rfl
  rotate_left
  · simp only [Act.put, List.setIfInBounds_toArray, List.set_cons_zero, List.set_cons_succ, i64_w, i32_w]
    rfl
  refine pure_ (i := 19) (N := (some 80)) (v := ?_) (a' := ?_) #[true, true, true, true, true, true, true, true, true, true, true, true, true, true, true, true, true, true, true, true, false, false, false, false, false, false, false, false, false, false, false, false, false, false, false, false, false, false, false, false, false, false, false, false, false, false, false, false, false, false] rfl rfl (any_of HT_.out (by kernel_rfl)) (fun _ _ _ h => h) (Or.inl ⟨by rfl, ?_⟩) ?_ ?_
  rotate_left
  · intro w'
    go_simp
    first | done | with_reducible rfl
  rotate_left
  · simp only [Act.put, List.setIfInBounds_toArray, List.set_cons_zero, List.set_cons_succ, i64_w, i32_w]
    rfl
  refine pure_ (i := 20) (N := (some 81)) (v := ?_) (a' := ?_) #[true, true, true, true, true, true, true, true, true, true, true, true, true, true, true, true, true, true, true, true, true, false, false, false, false, false, false, false, false, false, false, false, false, false, false, false, false, false, false, false, false, false, false, false, false, false, false, false, false, false] rfl rfl (any_of HT_.out (by kernel_rfl)) (fun _ _ _ h => h) (Or.inl ⟨by rfl, ?_⟩) ?_ ?_
  rotate_left
  · intro w'
    go_simp
    first | done | with_reducible rfl
  rotate_left
  · simp only [Act.put, List.setIfInBounds_toArray, List.set_cons_zero, List.set_cons_succ, i64_w, i32_w]
    rfl
  refine take_ (i := 21) (N := (some 82)) (v := ?_) (a' := ?_) #[true, true, true, true, true, true, true, true, true, true, true, true, true, true, true, true, true, true, true, true, true, true, false, false, false, false, false, false, false, false, false, false, false, false, false, false, false, false, false, false, false, false, false, false, false, false, false, false, false, false] rfl rfl (take_ofW HT_.out HW_.out (by kernel_rfl)) (fun _ _ _ h => h) (Or.inl ⟨by rfl, ?_⟩) hHeld ?_ ?_
  rotate_left
  · rintro w' ⟨⟨⟨a0, a1, a2⟩, ⟨b0, b1, b2⟩, ⟨e0, e1_, e2_⟩⟩, k0, k1⟩
    go_simp
    first | done | with_reducible rfl
  rotate_left
  · simp only [Act.put, List.setIfInBounds_toArray, List.set_cons_zero, List.set_cons_succ, i64_w, i32_w]
    rfl
  refine take_ (i := 23) (N := (some 84)) (v := ?_) (a' := ?_) #[true, true, true, true, true, true, true, true, true, true, true, true, true, true, true, true, true, true, true, true, true, true, false, true, false, false, false, false, false, false, false, false, false, false, false, false, false, false, false, false, false, false, false, false, false, false, false, false, false, false] rfl rfl (take_ofW HT_.out HW_.out (by kernel_rfl)) (fun _ _ _ h => h) (Or.inl ⟨by rfl, ?_⟩) hHeld ?_ ?_
  rotate_left
  · rintro w' ⟨⟨⟨a0, a1, a2⟩, ⟨b0, b1, b2⟩, ⟨e0, e1_, e2_⟩⟩, k0, k1⟩
    go_simp
    first | done | with_reducible rfl
  rotate_left
  · simp only [Act.put, List.setIfInBounds_toArray, List.set_cons_zero, List.set_cons_succ, i64_w, i32_w]
    rfl
  refine one_ (i := 22) (N := (some 83)) #[true, true, true, true, true, true, true, true, true, true, true, true, true, true, true, true, true, true, true, true, true, true, true, true, false, false, false, false, false, false, false, false, false, false, false, false, false, false, false, false, false, false, false, false, false, false, false, false, false, false] rfl rfl (one_of HT_.out (by kernel_rfl)) (by decide) (fun K hK => ?_)
  refine goes_ Try.func10 (by kernel_rfl) rfl #[.agg #[.int .i64 p, .int .i64 q, .slice A d.length c]] (by rfl) rfl rfl (by (try simp only [List.map_toArray, List.map_cons, List.map_nil]); first | done | rfl) ?_
  with_reducible refine (sheet_May.calls kk p q A c d (mayB p q d) _ (Kd.C_below HC.out Hv1.out.below) HZ.out HK1.out).mono ?_
  rintro ev_ v2 ⟨rfl, hb⟩
  refine ⟨_, rfl, ?_⟩
  have Hv2 := Aside0.mk (Hv1.out.step hb)
  clear hb
  refine hK.out _ _ (Hv2.out.held HS1.out) (fun hHeld => ?_)
  clear hK K
  refine norm_ (a' := ?_) ?_ ?_
  rotate_left
  · show Act.put _ (some 83) _ = _
    simp only [Act.put, List.setIfInBounds_toArray, List.set_cons_zero, List.set_cons_succ, i64_w, i32_w]
    rfl
  refine one_ (i := 24) (N := (some 85)) #[true, true, true, true, true, true, true, true, true, true, true, true, true, true, true, true, true, true, true, true, true, true, true, true, true, false, false, false, false, false, false, false, false, false, false, false, false, false, false, false, false, false, false, false, false, false, false, false, false, false] rfl rfl (one_of HT_.out (by kernel_rfl)) (by decide) (fun K hK => ?_)
  refine goes_ Try.func11 (by kernel_rfl) rfl #[.agg #[.int .i64 p, .int .i64 q, .slice A d.length c]] (by rfl) rfl rfl (by (try simp only [List.map_toArray, List.map_cons, List.map_nil]); first | done | rfl) ?_
  with_reducible refine (potsherdref3_MaySheet.calls kk p q A c d (mayB p q d) _ (Kd.C_below HC.out Hv2.out.below) HZ.out HK2.out).mono ?_
  rintro ev_ v3 ⟨rfl, hb⟩
  refine ⟨_, rfl, ?_⟩
  have Hv3 := Aside0.mk (Hv2.out.step hb)
  clear hb
  refine hK.out _ _ (Hv3.out.held HS1.out) (fun hHeld => ?_)
  clear hK K
  refine norm_ (a' := ?_) ?_ ?_
  rotate_left
  · show Act.put _ (some 85) _ = _
    simp only [Act.put, List.setIfInBounds_toArray, List.set_cons_zero, List.set_cons_succ, i64_w, i32_w]
    rfl
  refine pure_ (i := 25) (N := (some 86)) (v := ?_) (a' := ?_) #[true, true, true, true, true, true, true, true, true, true, true, true, true, true, true, true, true, true, true, true, true, true, true, true, true, true, false, false, false, false, false, false, false, false, false, false, false, false, false, false, false, false, false, false, false, false, false, false, false, false] rfl rfl (any_of HT_.out (by kernel_rfl)) (fun _ _ _ h => h) (Or.inl ⟨by rfl, ?_⟩) ?_ ?_
  rotate_left
  · intro w'
    go_simp
    first | done | with_reducible rfl
  rotate_left
  · simp only [Act.put, List.setIfInBounds_toArray, List.set_cons_zero, List.set_cons_succ, i64_w, i32_w]
    rfl
  refine pure_ (i := 26) (N := (some 87)) (v := ?_) (a' := ?_) #[true, true, true, true, true, true, true, true, true, true, true, true, true, true, true, true, true, true, true, true, true, true, true, true, true, true, true, false, false, false, false, false, false, false, false, false, false, false, false, false, false, false, false, false, false, false, false, false, false, false] rfl rfl (any_of HT_.out (by kernel_rfl)) (fun _ _ _ h => h) (Or.inl ⟨by rfl, ?_⟩) ?_ ?_
  rotate_left
  · intro w'
    go_simp
    first | done | with_reducible rfl
  rotate_left
  · simp only [Act.put, List.setIfInBounds_toArray, List.set_cons_zero, List.set_cons_succ, i64_w, i32_w]
    rfl
  refine pure_ (i := 27) (N := (some 88)) (v := ?_) (a' := ?_) #[true, true, true, true, true, true, true, true, true, true, true, true, true, true, true, true, true, true, true, true, true, true, true, true, true, true, true, true, false, false, false, false, false, false, false, false, false, false, false, false, false, false, false, false, false, false, false, false, false, false] rfl rfl (any_of HT_.out (by kernel_rfl)) (fun _ _ _ h => h) (Or.inl ⟨by rfl, ?_⟩) ?_ ?_
  rotate_left
  · intro w'
    go_simp
    first | done | with_reducible rfl
  rotate_left
  · simp only [Act.put, List.setIfInBounds_toArray, List.set_cons_zero, List.set_cons_succ, i64_w, i32_w]
    rfl
  refine pure_ (i := 28) (N := (some 89)) (v := ?_) (a' := ?_) #[true, true, true, true, true, true, true, true, true, true, true, true, true, true, true, true, true, true, true, true, true, true, true, true, true, true, true, true, true, false, false, false, false, false, false, false, false, false, false, false, false, false, false, false, false, false, false, false, false, false] rfl rfl (any_of HT_.out (by kernel_rfl)) (fun _ _ _ h => h) (Or.inl ⟨by rfl, ?_⟩) ?_ ?_
  rotate_left
  · intro w'
    go_simp
    first | done | with_reducible rfl
  rotate_left
  · simp only [Act.put, List.setIfInBounds_toArray, List.set_cons_zero, List.set_cons_succ, i64_w, i32_w]
    rfl
  refine pure_ (i := 29) (N := (some 90)) (v := ?_) (a' := ?_) #[true, true, true, true, true, true, true, true, true, true, true, true, true, true, true, true, true, true, true, true, true, true, true, true, true, true, true, true, true, true, false, false, false, false, false, false, false, false, false, false, false, false, false, false, false, false, false, false, false, false] rfl rfl (any_of HT_.out (by kernel_rfl)) (fun _ _ _ h => h) (Or.inl ⟨by rfl, ?_⟩) ?_ ?_
  rotate_left
  · intro w'
    go_simp
    first | done | with_reducible rfl
  rotate_left
  · simp only [Act.put, List.setIfInBounds_toArray, List.set_cons_zero, List.set_cons_succ, i64_w, i32_w]
    rfl
  refine pure_ (i := 31) (N := (some 92)) (v := ?_) (a' := ?_) #[true, true, true, true, true, true, true, true, true, true, true, true, true, true, true, true, true, true, true, true, true, true, true, true, true, true, true, true, true, true, false, true, false, false, false, false, false, false, false, false, false, false, false, false, false, false, false, false, false, false] rfl rfl (any_of HT_.out (by kernel_rfl)) (fun _ _ _ h => h) (Or.inl ⟨by rfl, ?_⟩) ?_ ?_
  rotate_left
  · intro w'
    go_simp
    first | done | with_reducible rfl
  rotate_left
  · simp only [Act.put, List.setIfInBounds_toArray, List.set_cons_zero, List.set_cons_succ, i64_w, i32_w]
    rfl
  refine pure_ (i := 32) (N := (some 93)) (v := ?_) (a' := ?_) #[true, true, true, true, true, true, true, true, true, true, true, true, true, true, true, true, true, true, true, true, true, true, true, true, true, true, true, true, true, true, false, true, true, false, false, false, false, false, false, false, false, false, false, false, false, false, false, false, false, false] rfl rfl (any_of HT_.out (by kernel_rfl)) (fun _ _ _ h => h) (Or.inl ⟨by rfl, ?_⟩) ?_ ?_
  rotate_left
  · intro w'
    go_simp
    first | done | with_reducible rfl
  rotate_left
  · simp only [Act.put, List.setIfInBounds_toArray, List.set_cons_zero, List.set_cons_succ, i64_w, i32_w]
    rfl
  refine one_ (i := 30) (N := (some 91)) #[true, true, true, true, true, true, true, true, true, true, true, true, true, true, true, true, true, true, true, true, true, true, true, true, true, true, true, true, true, true, true, true, true, false, false, false, false, false, false, false, false, false, false, false, false, false, false, false, false, false] rfl rfl (one_of HT_.out (by kernel_rfl)) (by decide) (fun K hK => ?_)
  refine goes_ Try.func20 (by kernel_rfl) rfl #[.int .i64 node, .int .i64 page] (by rfl) rfl rfl (by (try simp only [List.map_toArray, List.map_cons, List.map_nil]); first | done | rfl) ?_
  with_reducible refine (sheet_Number.calls node page nn _ HN1.out).mono ?_
  rintro ev_ v4 ⟨rfl, hd⟩
  refine ⟨_, rfl, ?_⟩
  have hb := hd.below
  clear hd
  have Hv4 := Aside0.mk (Hv3.out.step hb)
  clear hb
  refine hK.out _ _ (Hv4.out.held HS1.out) (fun hHeld => ?_)
  clear hK K
  refine norm_ (a' := ?_) ?_ ?_
  rotate_left
  · show Act.put _ (some 91) _ = _
    simp only [Act.put, List.setIfInBounds_toArray, List.set_cons_zero, List.set_cons_succ, i64_w, i32_w]
    rfl
  refine one_ (i := 33) (N := (some 94)) #[true, true, true, true, true, true, true, true, true, true, true, true, true, true, true, true, true, true, true, true, true, true, true, true, true, true, true, true, true, true, true, true, true, true, false, false, false, false, false, false, false, false, false, false, false, false, false, false, false, false] rfl rfl (one_of HT_.out (by kernel_rfl)) (by decide) (fun K hK => ?_)
  refine goes_ Try.func21 (by kernel_rfl) rfl #[.int .i64 node, .int .i64 page] (by rfl) rfl rfl (by (try simp only [List.map_toArray, List.map_cons, List.map_nil]); first | done | rfl) ?_
  with_reducible refine (potsherdref3_PageOf.calls node page nn _ HN2.out).mono ?_
  rintro ev_ v5 ⟨rfl, hd⟩
  refine ⟨_, rfl, ?_⟩
  have hb := hd.below
  clear hd
  have Hv5 := Aside0.mk (Hv4.out.step hb)
  clear hb
  refine hK.out _ _ (Hv5.out.held HS1.out) (fun hHeld => ?_)
  clear hK K
  refine norm_ (a' := ?_) ?_ ?_
  rotate_left
  · show Act.put _ (some 94) _ = _
    simp only [Act.put, List.setIfInBounds_toArray, List.set_cons_zero, List.set_cons_succ, i64_w, i32_w]
    rfl
  refine pure_ (i := 34) (N := (some 95)) (v := ?_) (a' := ?_) #[true, true, true, true, true, true, true, true, true, true, true, true, true, true, true, true, true, true, true, true, true, true, true, true, true, true, true, true, true, true, true, true, true, true, true, false, false, false, false, false, false, false, false, false, false, false, false, false, false, false] rfl rfl (any_of HT_.out (by kernel_rfl)) (fun _ _ _ h => h) (Or.inl ⟨by rfl, ?_⟩) ?_ ?_
  rotate_left
  · intro w'
    go_simp
    first | done | with_reducible rfl
  rotate_left
  · simp only [Act.put, List.setIfInBounds_toArray, List.set_cons_zero, List.set_cons_succ, i64_w, i32_w]
    rfl
  refine pure_ (i := 35) (N := (some 96)) (v := ?_) (a' := ?_) #[true, true, true, true, true, true, true, true, true, true, true, true, true, true, true, true, true, true, true, true, true, true, true, true, true, true, true, true, true, true, true, true, true, true, true, true, false, false, false, false, false, false, false, false, false, false, false, false, false, false] rfl rfl (any_of HT_.out (by kernel_rfl)) (fun _ _ _ h => h) (Or.inl ⟨by rfl, ?_⟩) ?_ ?_
  rotate_left
  · intro w'
    go_simp
    first | done | with_reducible rfl
  rotate_left
  · simp only [Act.put, List.setIfInBounds_toArray, List.set_cons_zero, List.set_cons_succ, i64_w, i32_w]
    rfl
  refine pure_ (i := 36) (N := (some 97)) (v := ?_) (a' := ?_) #[true, true, true, true, true, true, true, true, true, true, true, true, true, true, true, true, true, true, true, true, true, true, true, true, true, true, true, true, true, true, true, true, true, true, true, true, true, false, false, false, false, false, false, false, false, false, false, false, false, false] rfl rfl (any_of HT_.out (by kernel_rfl)) (fun _ _ _ h => h) (Or.inl ⟨by rfl, ?_⟩) ?_ ?_
  rotate_left
  · intro w'
    go_simp
    first | done | with_reducible rfl
  rotate_left
  · simp only [Act.put, List.setIfInBounds_toArray, List.set_cons_zero, List.set_cons_succ, i64_w, i32_w]
    rfl
  refine pure_ (i := 37) (N := (some 98)) (v := ?_) (a' := ?_) #[true, true, true, true, true, true, true, true, true, true, true, true, true, true, true, true, true, true, true, true, true, true, true, true, true, true, true, true, true, true, true, true, true, true, true, true, true, true, false, false, false, false, false, false, false, false, false, false, false, false] rfl rfl (any_of HT_.out (by kernel_rfl)) (fun _ _ _ h => h) (Or.inl ⟨by rfl, ?_⟩) ?_ ?_
  rotate_left
  · intro w'
    go_simp
    first | done | with_reducible rfl
  rotate_left
  · simp only [Act.put, List.setIfInBounds_toArray, List.set_cons_zero, List.set_cons_succ, i64_w, i32_w]
    rfl
  refine pure_ (i := 38) (N := (some 99)) (v := ?_) (a' := ?_) #[true, true, true, true, true, true, true, true, true, true, true, true, true, true, true, true, true, true, true, true, true, true, true, true, true, true, true, true, true, true, true, true, true, true, true, true, true, true, true, false, false, false, false, false, false, false, false, false, false, false] rfl rfl (any_of HT_.out (by kernel_rfl)) (fun _ _ _ h => h) (Or.inl ⟨by rfl, ?_⟩) ?_ ?_
  rotate_left
  · intro w'
    go_simp
    first | done | with_reducible rfl
  rotate_left
  · simp only [Act.put, List.setIfInBounds_toArray, List.set_cons_zero, List.set_cons_succ, i64_w, i32_w]
    rfl
  refine pure_ (i := 39) (N := (some 100)) (v := ?_) (a' := ?_) #[true, true, true, true, true, true, true, true, true, true, true, true, true, true, true, true, true, true, true, true, true, true, true, true, true, true, true, true, true, true, true, true, true, true, true, true, true, true, true, true, false, false, false, false, false, false, false, false, false, false] rfl rfl (any_of HT_.out (by kernel_rfl)) (fun _ _ _ h => h) (Or.inl ⟨by rfl, ?_⟩) ?_ ?_
  rotate_left
  · intro w'
    go_simp
    first | done | with_reducible rfl
  rotate_left
  · simp only [Act.put, List.setIfInBounds_toArray, List.set_cons_zero, List.set_cons_succ, i64_w, i32_w]
    rfl
  refine pure_ (i := 40) (N := (some 101)) (v := ?_) (a' := ?_) #[true, true, true, true, true, true, true, true, true, true, true, true, true, true, true, true, true, true, true, true, true, true, true, true, true, true, true, true, true, true, true, true, true, true, true, true, true, true, true, true, true, false, false, false, false, false, false, false, false, false] rfl rfl (any_of HT_.out (by kernel_rfl)) (fun _ _ _ h => h) (Or.inl ⟨by rfl, ?_⟩) ?_ ?_
  rotate_left
  · intro w'
    go_simp
    first | done | with_reducible rfl
  rotate_left
  · simp only [Act.put, List.setIfInBounds_toArray, List.set_cons_zero, List.set_cons_succ, i64_w, i32_w]
    rfl
  refine pure_ (i := 41) (N := (some 102)) (v := ?_) (a' := ?_) #[true, true, true, true, true, true, true, true, true, true, true, true, true, true, true, true, true, true, true, true, true, true, true, true, true, true, true, true, true, true, true, true, true, true, true, true, true, true, true, true, true, true, false, false, false, false, false, false, false, false] rfl rfl (any_of HT_.out (by kernel_rfl)) (fun _ _ _ h => h) (Or.inl ⟨by rfl, ?_⟩) ?_ ?_
  rotate_left
  · intro w'
    go_simp
    first | done | with_reducible rfl
  rotate_left
  · simp only [Act.put, List.setIfInBounds_toArray, List.set_cons_zero, List.set_cons_succ, i64_w, i32_w]
    rfl
  refine pure_ (i := 42) (N := (some 103)) (v := ?_) (a' := ?_) #[true, true, true, true, true, true, true, true, true, true, true, true, true, true, true, true, true, true, true, true, true, true, true, true, true, true, true, true, true, true, true, true, true, true, true, true, true, true, true, true, true, true, true, false, false, false, false, false, false, false] rfl rfl (any_of HT_.out (by kernel_rfl)) (fun _ _ _ h => h) (Or.inl ⟨by rfl, ?_⟩) ?_ ?_
  rotate_left
  · intro w'
    go_simp
    first | done | with_reducible rfl
  rotate_left
  · simp only [Act.put, List.setIfInBounds_toArray, List.set_cons_zero, List.set_cons_succ, i64_w, i32_w]
    rfl
  refine pure_ (i := 43) (N := (some 104)) (v := ?_) (a' := ?_) #[true, true, true, true, true, true, true, true, true, true, true, true, true, true, true, true, true, true, true, true, true, true, true, true, true, true, true, true, true, true, true, true, true, true, true, true, true, true, true, true, true, true, true, true, false, false, false, false, false, false] rfl rfl (any_of HT_.out (by kernel_rfl)) (fun _ _ _ h => h) (Or.inl ⟨by rfl, ?_⟩) ?_ ?_
  rotate_left
  · intro w'
    go_simp
    first | done | with_reducible rfl
  rotate_left
  · simp only [Act.put, List.setIfInBounds_toArray, List.set_cons_zero, List.set_cons_succ, i64_w, i32_w]
    rfl
  refine pure_ (i := 44) (N := (some 105)) (v := ?_) (a' := ?_) #[true, true, true, true, true, true, true, true, true, true, true, true, true, true, true, true, true, true, true, true, true, true, true, true, true, true, true, true, true, true, true, true, true, true, true, true, true, true, true, true, true, true, true, true, true, false, false, false, false, false] rfl rfl (any_of HT_.out (by kernel_rfl)) (fun _ _ _ h => h) (Or.inl ⟨by rfl, ?_⟩) ?_ ?_
  rotate_left
  · intro w'
    go_simp
    first | done | with_reducible rfl
  rotate_left
  · simp only [Act.put, List.setIfInBounds_toArray, List.set_cons_zero, List.set_cons_succ, i64_w, i32_w]
    rfl
  refine pure_ (i := 45) (N := (some 106)) (v := ?_) (a' := ?_) #[true, true, true, true, true, true, true, true, true, true, true, true, true, true, true, true, true, true, true, true, true, true, true, true, true, true, true, true, true, true, true, true, true, true, true, true, true, true, true, true, true, true, true, true, true, true, false, false, false, false] rfl rfl (any_of HT_.out (by kernel_rfl)) (fun _ _ _ h => h) (Or.inl ⟨by rfl, ?_⟩) ?_ ?_
  rotate_left
  · intro w'
    go_simp
    first | done | with_reducible rfl
  rotate_left
  · simp only [Act.put, List.setIfInBounds_toArray, List.set_cons_zero, List.set_cons_succ, i64_w, i32_w]
    rfl
  refine pure_ (i := 46) (N := (some 107)) (v := ?_) (a' := ?_) #[true, true, true, true, true, true, true, true, true, true, true, true, true, true, true, true, true, true, true, true, true, true, true, true, true, true, true, true, true, true, true, true, true, true, true, true, true, true, true, true, true, true, true, true, true, true, true, false, false, false] rfl rfl (any_of HT_.out (by kernel_rfl)) (fun _ _ _ h => h) (Or.inl ⟨by rfl, ?_⟩) ?_ ?_
  rotate_left
  · intro w'
    go_simp
    first | done | with_reducible rfl
  rotate_left
  · simp only [Act.put, List.setIfInBounds_toArray, List.set_cons_zero, List.set_cons_succ, i64_w, i32_w]
    rfl
  refine one_ (i := 47) (N := (some 108)) #[true, true, true, true, true, true, true, true, true, true, true, true, true, true, true, true, true, true, true, true, true, true, true, true, true, true, true, true, true, true, true, true, true, true, true, true, true, true, true, true, true, true, true, true, true, true, true, true, false, false] rfl rfl (one_of HT_.out (by kernel_rfl)) (by decide) (fun K hK => ?_)
  refine goes_ Try.func12 (by kernel_rfl) rfl #[] (by rfl) rfl rfl (by (try simp only [List.map_toArray, List.map_cons, List.map_nil]); first | done | rfl) ?_
  with_reducible refine (Aw.awake _).mono ?_
  rintro ev_ v6 ⟨rfl, hb⟩
  refine ⟨_, rfl, ?_⟩
  have Hv6 := Aside0.mk (Hv5.out.step hb)
  clear hb
  refine hK.out _ _ (Hv6.out.held HS1.out) (fun hHeld => ?_)
  clear hK K
  refine norm_ (a' := ?_) ?_ ?_
  rotate_left
  · show Act.put _ (some 108) _ = _
    simp only [Act.put, List.setIfInBounds_toArray, List.set_cons_zero, List.set_cons_succ, i64_w, i32_w]
    rfl
  refine pure_ (i := 48) (N := (some 109)) (v := ?_) (a' := ?_) #[true, true, true, true, true, true, true, true, true, true, true, true, true, true, true, true, true, true, true, true, true, true, true, true, true, true, true, true, true, true, true, true, true, true, true, true, true, true, true, true, true, true, true, true, true, true, true, true, true, false] rfl rfl (any_of HT_.out (by kernel_rfl)) (fun _ _ _ h => h) (Or.inl ⟨by rfl, ?_⟩) ?_ ?_
  rotate_left
  · intro w'
    go_simp
    first | done | with_reducible rfl
  rotate_left
  · simp only [Act.put, List.setIfInBounds_toArray, List.set_cons_zero, List.set_cons_succ, i64_w, i32_w]
    rfl
  refine pure_ (i := 49) (N := (some 8)) (v := ?_) (a' := ?_) #[true, true, true, true, true, true, true, true, true, true, true, true, true, true, true, true, true, true, true, true, true, true, true, true, true, true, true, true, true, true, true, true, true, true, true, true, true, true, true, true, true, true, true, true, true, true, true, true, true, true] rfl rfl (any_of HT_.out (by kernel_rfl)) (fun _ _ _ h => h) (Or.inl ⟨by rfl, ?_⟩) ?_ ?_
  rotate_left
  · intro w'
    go_simp
    first | done | with_reducible rfl
  rotate_left
  · simp only [Act.put, List.setIfInBounds_toArray, List.set_cons_zero, List.set_cons_succ, i64_w, i32_w]
    rfl
  refine done_ (done_of HT_.out (by kernel_rfl)) ?_
  go_wp2
  go_ret
  exact ⟨rfl, Hv6.out.below⟩
set_option maxHeartbeats 4000000 in
set_option maxRecDepth 100000 in
theorem heavy (W : World) (p q : Int) (A : Option Addr) (c : Nat) (d : List Int) (A1 : Option Addr) (c1 : Nat) (b : List Int) (node page : Int) (hz : d.length ≤ c) (hC : Kd.C (Kd.int .u8) W A d.length d) (h3 : ¬ d.length ≤ 3000) :
    Calls Try.prog 7 #[.agg #[.int .i64 p, .int .i64 q, .slice A d.length c], .slice A1 b.length c1, .int .i64 node, .int .i64 page] W fun e w' => e = .returned (.bool true) ∧ Below W.heap.size W w' := by
  have HZ := Aside0.mk hz
  have HC := Aside0.mk hC
  have H3 := Aside0.mk h3
  clear hz hC h3
  go_enter Try.func7, Try.ntmps7
  go_wp2_with fail
  obtain ⟨sb, hsb⟩ : ∃ sb, W.heap.size = sb := ⟨_, rfl⟩
  obtain ⟨w1, hw1⟩ : ∃ w1, W.alloc (.cells #[.int .i64 p, .int .i64 q, .slice A d.length c] 24) = w1 := ⟨_, rfl⟩
  have hs1 : sb + 1 = w1.heap.size := by rw [← hw1, ← hsb]; simp
  have HI1 : Aside0 (Inv W sb p q (.slice A d.length c) w1) := ⟨⟨by rw [← hw1]; exact below_alloc (Below.refl _ _) _, by rw [← hw1, ← hsb]; simpa using heap_alloc_new W _⟩⟩
  rw [hsb, hw1, hs1]
  clear hsb hw1 hs1
  refine (potsherdlaw5_light.calls 3 (some ⟨w1.heap.size, 0, none⟩) 1 [⟨p, q, d⟩] false _ (one_C HZ.out (HI1.out.C HC.out)) (Nat.le_refl _) (by rw [light1, decide_eq_false H3.out])).mono ?_
  rintro ev w2 ⟨rfl, hb⟩
  have HI2 := Aside0.mk ((HI1.out.step (below_alloc (Below.refl _ _) _)).step hb)
  clear hb HI1
  go_wp2_with fail
  refine (Aw.awake _).mono ?_
  rintro ev w3 ⟨rfl, hb⟩
  have HB3 := Aside0.mk (below_step HI2.out.1 hb)
  clear hb
  go_wp2_with fail
  go_ret
  exact ⟨rfl, HB3.out⟩
set_option maxHeartbeats 4000000 in
set_option maxRecDepth 100000 in
theorem long (W : World) (p q : Int) (A : Option Addr) (c : Nat) (d : List Int) (A1 : Option Addr) (c1 : Nat) (b : List Int) (node page : Int) (hz : d.length ≤ c) (hC : Kd.C (Kd.int .u8) W A d.length d) (h3 : d.length ≤ 3000) (hb : ¬ b.length ≤ 3000) :
    Calls Try.prog 7 #[.agg #[.int .i64 p, .int .i64 q, .slice A d.length c], .slice A1 b.length c1, .int .i64 node, .int .i64 page] W fun e w' => e = .returned (.bool true) ∧ Below W.heap.size W w' := by
  have HZ := Aside0.mk hz
  have HC := Aside0.mk hC
  have H3 := Aside0.mk h3
  have hbl : ((b.length : Int) > 3000) := by omega
  clear hb
  clear hz hC h3
  go_enter Try.func7, Try.ntmps7
  go_wp2_with fail
  obtain ⟨sb, hsb⟩ : ∃ sb, W.heap.size = sb := ⟨_, rfl⟩
  obtain ⟨w1, hw1⟩ : ∃ w1, W.alloc (.cells #[.int .i64 p, .int .i64 q, .slice A d.length c] 24) = w1 := ⟨_, rfl⟩
  have hs1 : sb + 1 = w1.heap.size := by rw [← hw1, ← hsb]; simp
  have HI1 : Aside0 (Inv W sb p q (.slice A d.length c) w1) := ⟨⟨by rw [← hw1]; exact below_alloc (Below.refl _ _) _, by rw [← hw1, ← hsb]; simpa using heap_alloc_new W _⟩⟩
  rw [hsb, hw1, hs1]
  clear hsb hw1 hs1
  refine (potsherdlaw5_light.calls 3 (some ⟨w1.heap.size, 0, none⟩) 1 [⟨p, q, d⟩] true _ (one_C HZ.out (HI1.out.C HC.out)) (Nat.le_refl _) (by rw [light1, decide_eq_true H3.out])).mono ?_
  rintro ev w2 ⟨rfl, hb⟩
  have HI2 := Aside0.mk ((HI1.out.step (below_alloc (Below.refl _ _) _)).step hb)
  clear hb HI1
  go_wp2_with fail
  refine (Aw.awake _).mono ?_
  rintro ev w3 ⟨rfl, hb⟩
  have HB3 := Aside0.mk (below_step HI2.out.1 hb)
  clear hb
  go_wp2_with fail
  go_ret
  exact ⟨rfl, HB3.out⟩
theorem final (W : World) (cs : Array Value) (x : S24) (hK : k24.K W x cs.toList) (hok : Ok24 x) (A1 : Option Addr) (c1 : Nat) (l1 : List Int) (hc1 : l1.length ≤ c1) (hr1 : Kd.C (Kd.int .u8) W A1 l1.length l1) (hm1 : l1.length ≤ maxLen) (hok1 : ∀ x ∈ l1, (Lit.int .u8 x).wf = true) (a2 : Int) (w2 : (Lit.int .i64 a2).wf = true) (a3 : Int) (w3 : (Lit.int .i64 a3).wf = true) :
    Calls Try.prog 7 #[.agg cs, .slice A1 l1.length c1, .int .i64 a2, .int .i64 a3] W fun e w' => e = .returned (.bool true) ∧ Below W.heap.size W w' := by
  obtain ⟨A, c, rfl, hz, hC⟩ := agg_of hK
  by_cases h3 : x.f2.length ≤ 3000
  · by_cases hb : l1.length ≤ 3000
    · exact walk W x.f0 x.f1 A c x.f2 A1 c1 l1 a2 a3 hz hC hc1 hr1 (bytes_of hok1) h3 hb
    · exact long W x.f0 x.f1 A c x.f2 A1 c1 l1 a2 a3 hz hC h3 hb
  · exact heavy W x.f0 x.f1 A c x.f2 A1 c1 l1 a2 a3 hz hC h3
end Go.Proofs.Ytmoefknefopdlaa.Forms
