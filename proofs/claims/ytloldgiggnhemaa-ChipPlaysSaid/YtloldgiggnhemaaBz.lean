import Derived.Test.YtloldgiggnhemaaSz
set_option linter.unusedVariables false
set_option linter.unusedSimpArgs false
/-! The chip's Blocks: a row of blocks of the call's own. -/
namespace Go.Proofs.Ytloldgiggnhemaa.Cm
open Go.RowKit Go.Proofs.YtloldgiggnhemaaW.PrintWords Go.Proofs.YtloldgiggnhemaaW.PrintLast Go.Proofs.YtloldgiggnhemaaW.PrintMore Go.Proofs.Ytloldgiggnhemaa.Kp Go.Proofs.Ytloldgiggnhemaa.Cp
attribute [local go_sem] max2_int min2_int max_two min_two max_three min_three max_four min_four

/-- A block as it lies in a row; its pages: where they lie. -/
structure FB where
  bad : Bool
  next : Int
  count : Int
  pg : Sl
def kF : Kd FB := Kd.iso (Kd.pair Kd.bool (Kd.pair (Kd.int .i64) (Kd.pair (Kd.int .i64) (Kd.scalar encS (fun _ => rfl))))) (fun x : FB => (x.bad, x.next, x.count, x.pg))
def zF : FB := ⟨false, 0, 0, (none, 0, 0)⟩
theorem kF_open {w : World} {x : FB} {cs : List Value} (h : kF.K w x cs) : cs = [.bool x.bad, .int .i64 x.next, .int .i64 x.count, encS x.pg] := by
  obtain ⟨_, _, rfl, rfl, ⟨_, _, rfl, rfl, ⟨_, _, rfl, rfl, rfl⟩⟩⟩ := h
  rfl
theorem kF_mkM (w : World) (base : Nat) (ok : Nat → Prop) (x : FB) : kF.M w base ok x [.bool x.bad, .int .i64 x.next, .int .i64 x.count, encS x.pg] :=
  ⟨[.bool x.bad], [.int .i64 x.next, .int .i64 x.count, encS x.pg], rfl, rfl, ⟨[.int .i64 x.next], [.int .i64 x.count, encS x.pg], rfl, rfl, ⟨[.int .i64 x.count], [encS x.pg], rfl, rfl, rfl⟩⟩⟩
theorem fbAt {w : World} {A : Option Addr} {n : Nat} {xs : List FB} (h : Kd.C kF w A n xs) (i : Nat) (hi : i < n) : ∃ ad, A = some ad ∧ w.cell? (ad.add (i * 4)) = some (.bool (xs.getD i zF).bad) ∧ w.cell? ⟨(ad.add (i * 4)).block, (ad.add (i * 4)).off + 1, none⟩ = some (.int .i64 (xs.getD i zF).next) ∧
    w.cell? ⟨(ad.add (i * 4)).block, (ad.add (i * 4)).off + 2, none⟩ = some (.int .i64 (xs.getD i zF).count) ∧ w.cell? ⟨(ad.add (i * 4)).block, (ad.add (i * 4)).off + 3, none⟩ = some (.slice (xs.getD i zF).pg.1 (xs.getD i zF).pg.2.1 (xs.getD i zF).pg.2.2) := by
  obtain ⟨ad, c, e, _, hK, hc0⟩ := Kd.C_get h zF (i : Int) (by omega) (by omega)
  have hc : ∀ j u, c[j]? = some u → w.cell? (ad.add (i * 4 + j)) = some u := hc0
  have hcs := kF_open hK
  have hK' : c = [.bool (xs.getD i zF).bad, .int .i64 (xs.getD i zF).next, .int .i64 (xs.getD i zF).count, .slice (xs.getD i zF).pg.1 (xs.getD i zF).pg.2.1 (xs.getD i zF).pg.2.2] := hcs
  subst hK'
  exact ⟨ad, e, hc 0 _ rfl, by rw [← add_field _ _ 1 (by omega)]; exact hc 1 _ rfl, by rw [← add_field _ _ 2 (by omega)]; exact hc 2 _ rfl, by rw [← add_field _ _ 3 (by omega)]; exact hc 3 _ rfl⟩
theorem cell_same {w w1 : World} {a : Addr} (h : w1.heap[a.block]? = w.heap[a.block]?) : w1.cell? a = w.cell? a := by
  unfold World.cell?
  rw [h]
theorem cell_lt {w : World} {a : Addr} {v : Value} (h : w.cell? a = some v) : a.block < w.heap.size := by
  rcases Nat.lt_or_ge a.block w.heap.size with h1 | h1
  · exact h1
  · unfold World.cell? at h
    rw [Array.getElem?_eq_none h1] at h
    simp at h
theorem add_blk (ad : Addr) (j : Nat) : (ad.add j).block = ad.block := by unfold Addr.add; split <;> rfl
theorem cell_ltA {w : World} {ad : Addr} {j : Nat} {v : Value} (h : w.cell? (ad.add j) = some v) : ad.block < w.heap.size := by
  have h1 := cell_lt h
  rwa [add_blk] at h1
theorem cell_sameA {w w1 : World} {ad : Addr} {j : Nat} (h : w1.heap[ad.block]? = w.heap[ad.block]?) : w1.cell? (ad.add j) = w.cell? (ad.add j) := cell_same (by rw [add_blk]; exact h)
/-- Pages that lie in the blocks from lo to hi. -/
def PgIn (W : World) (lo hi : Nat) (pv : Value) (l : List (List Int)) : Prop :=
  ∃ A c, pv = .slice A l.length c ∧ l.length ≤ c ∧ ∀ j xs, l[j]? = some xs → ∃ ad v, A = some ad ∧ lo ≤ ad.block ∧ ad.block < hi ∧ W.cell? (ad.add j) = some v ∧ Kd.R (Kd.int .u8) 5 W lo (fun k => lo ≤ k ∧ k < hi) v xs
theorem PgIn.of {W : World} {lo : Nat} {pv : Value} {l : List (List Int)} (h : Pgs W lo pv l) : PgIn W lo W.heap.size pv l := by
  obtain ⟨A, c, h1, h2, h3⟩ := h
  refine ⟨A, c, h1, h2, fun j xs hj => ?_⟩
  obtain ⟨ad, v, q1, q2, q3, q4⟩ := h3 j xs hj
  exact ⟨ad, v, q1, q2, cell_ltA q3, q3, Kd.R_mono (Kd.R_bound q4) (fun k hk => ⟨hk.2.1, hk.2.2.1⟩)⟩
theorem PgIn.step {W W1 : World} {lo hi : Nat} {pv : Value} {l : List (List Int)} (h : PgIn W lo hi pv l) (hk : ∀ k, lo ≤ k → k < hi → W1.heap[k]? = W.heap[k]?) : PgIn W1 lo hi pv l := by
  obtain ⟨A, c, h1, h2, h3⟩ := h
  refine ⟨A, c, h1, h2, fun j xs hj => ?_⟩
  obtain ⟨ad, v, q1, q2, q3, q4, q5⟩ := h3 j xs hj
  exact ⟨ad, v, q1, q2, q3, (cell_sameA (hk _ q2 q3)).trans q4, Kd.R_step q5 (fun k ho _ => hk k ho.1 ho.2)⟩
theorem PgIn.pgs {W : World} {lo hi b : Nat} {pv : Value} {l : List (List Int)} (h : PgIn W lo hi pv l) (hb : b ≤ lo) : Pgs W b pv l := by
  obtain ⟨A, c, h1, h2, h3⟩ := h
  refine ⟨A, c, h1, h2, fun j xs hj => ?_⟩
  obtain ⟨ad, v, q1, q2, q3, q4, q5⟩ := h3 j xs hj
  exact ⟨ad, v, q1, Nat.le_trans hb q2, q4, Kd.R_lower (Kd.R_mono q5 (fun _ _ => trivial)) hb⟩
/-- k of the blocks stand in the row. -/
structure FBi (W : World) (b0 : Nat) (v : Value) (bs : List Blk) (k : Nat) (l : List FB) : Prop where
  len : l.length = k
  at_ : ∀ (i : Nat) (B : Blk), i < k → bs[i]? = some B → ∃ p lo hi, l[i]? = some ⟨B.bad, B.next, B.count, p⟩ ∧ PgIn W lo hi (encS p) B.pages ∧ b0 ≤ lo ∧ hi ≤ W.heap.size ∧ ∀ q, v.ownBlock = some q → q < lo ∨ hi ≤ q
theorem FBi.step {W W1 : World} {b0 : Nat} {v v1 : Value} {bs : List Blk} {k : Nat} {l : List FB} (h : FBi W b0 v bs k l) (hg : ∀ q, q < W.heap.size → v.ownBlock ≠ some q → W1.heap[q]? = W.heap[q]?) (hs : W.heap.size ≤ W1.heap.size) (hv : v1.ownBlock = v.ownBlock ∨ ∃ q, v1.ownBlock = some q ∧ W.heap.size ≤ q)
    {B : Blk} {p : Sl} {lo : Nat} (hB : bs[k]? = some B) (hp : PgIn W lo W.heap.size (encS p) B.pages) (hlo : b0 ≤ lo) (hov : ∀ q, v.ownBlock = some q → q < lo) : FBi W1 b0 v1 bs (k + 1) (l ++ [⟨B.bad, B.next, B.count, p⟩]) := by
  refine ⟨by rw [List.length_append, h.len]; rfl, fun i C hi hC => ?_⟩
  rcases Nat.lt_or_ge i k with hik | hik
  · obtain ⟨p', lo', hi', e1, e2, e3, e4, e5⟩ := h.at_ i C hik hC
    refine ⟨p', lo', hi', by rw [List.getElem?_append_left (by rw [h.len]; exact hik)]; exact e1, e2.step (fun q h1 h2 => hg q (by omega) (fun e => by rcases e5 q e with h3 | h3 <;> omega)), e3, by omega, fun q hq => ?_⟩
    rcases hv with hv | ⟨q', hv, hq'⟩
    · exact e5 q (hv ▸ hq)
    · rw [hv] at hq
      injection hq with hq
      omega
  · obtain rfl : i = k := by omega
    obtain rfl : B = C := by rw [hB] at hC; exact Option.some.inj hC
    refine ⟨p, lo, W.heap.size, by rw [List.getElem?_append_right (by rw [h.len]; exact Nat.le_refl _), h.len, Nat.sub_self]; rfl, hp.step (fun q h1 h2 => hg q h2 (fun e => by have := hov q e; omega)), hlo, hs, fun q hq => ?_⟩
    rcases hv with hv | ⟨q', hv, hq'⟩
    · exact .inl (hov q (hv ▸ hq))
    · rw [hv] at hq
      injection hq with hq
      omega
theorem FBi.keep {W W1 : World} {b0 : Nat} {v : Value} {bs : List Blk} {k : Nat} {l : List FB} (h : FBi W b0 v bs k l) (hb : Below W.heap.size W W1) : FBi W1 b0 v bs k l := ⟨h.len, fun i B hi hB => by
  obtain ⟨p, lo, hi', e1, e2, e3, e4, e5⟩ := h.at_ i B hi hB
  exact ⟨p, lo, hi', e1, e2.step (fun q h1 h2 => hb.block q (by omega)), e3, Nat.le_trans e4 hb.size, e5⟩⟩
/-- What Blocks makes. -/
def FBs (W : World) (b0 : Nat) (bs : List Blk) (l : List FB) : Prop := l.length = bs.length ∧ ∀ (i : Nat) (B : Blk), bs[i]? = some B → ∃ p, l[i]? = some ⟨B.bad, B.next, B.count, p⟩ ∧ Pgs W b0 (encS p) B.pages
theorem encS_of {A : Option Addr} {n c : Nat} : (.slice A n c : Value) = encS (A, n, c) := rfl
set_option maxHeartbeats 4000000 in
set_option maxRecDepth 100000 in
theorem blocks {w : World} {base : Nat} {S : Nat → Prop} {g : Nat} {s : Chp} (h : Hd w base S g s) (hx : ∀ B ∈ s.blocks, ∀ xs ∈ B.pages, xs.length ≤ 100000) :
    Calls Try.prog 36 #[.pointer (some ⟨g, 0, none⟩)] w fun e w' => ∃ v l, e = .returned v ∧ Kd.R kF 36 w' w.heap.size (fun _ => True) v l ∧ FBs w' w.heap.size s.blocks l ∧ Hd w' base S g s ∧ Below w.heap.size w w' := by
  have HH0 := Aside0.mk h
  have HX := Aside0.mk hx
  obtain ⟨hh, cap, cs, pg, r⟩ := h.chip
  obtain ⟨⟨c0, -⟩, -, -⟩ := ten r
  have HN := Aside0.mk r.inv.n2
  have C0 := Aside0.mk c0
  clear r hx h
  go_enter Try.func36, Try.ntmps36
  go_wp2_with fail
  clear c0
  go_loopw [3, 12] (fun v3 v12 wr => ∃ (k : Nat) (l : List FB), k ≤ s.blocks.length ∧ v12 = .int .i64 (k : Int) ∧ Aside0 (Kd.R kF 36 wr w.heap.size (fun _ => True) v3 l) ∧ Aside0 (FBi wr w.heap.size v3 s.blocks k l) ∧ Aside0 (Below w.heap.size w wr)) (fun _ v12 _ => s.blocks.length - (intOf v12).toNat)
  case atStart => exact ⟨0, [], Nat.zero_le _, rfl, ⟨Kd.R_nil _ _ _ _ _⟩, ⟨⟨rfl, fun i B hi => absurd hi (Nat.not_lt_zero _)⟩⟩, ⟨Below.refl _ _⟩⟩
  case round =>
    obtain ⟨k, l, hk, rfl, HR, HF, HB⟩ := hrel
    have HH := Aside0.mk (HH0.out.below HB.out)
    by_cases hlt : k < s.blocks.length
    · have hlt2 : (k : Int) < (s.blocks.length : Int) := by omega
      have HLT := Aside0.mk hlt
      have hw2 : wrap64 ((k : Int) + 1) = ((k + 1 : Nat) : Int) := by rw [show (k : Int) + 1 = ((k + 1 : Nat) : Int) by omega]; exact wrap_small _ (by omega) (by have := HN.out; omega)
      obtain ⟨B, hB⟩ : ∃ B, s.blocks[k]? = some B := ⟨_, List.getElem?_eq_getElem hlt⟩
      have hbb : blockB s (k : Int) = B := by
        unfold blockB hasB
        rw [decide_eq_true (show (0 : Int) ≤ k by omega), decide_eq_true hlt2, Bool.and_self, if_pos rfl]
        show (s.blocks[k]?).getD noB = B
        rw [hB]
        rfl
      have HBB := Aside0.mk hbb
      have HBK := Aside0.mk hB
      have HXB := Aside0.mk (HX.out B (List.mem_of_getElem? hB))
      clear hlt hk hB hbb
      go_wp2_with fail
      refine (blockH HH.out (k : Int) (by rw [HBB.out]; exact HXB.out)).mono ?_
      rintro ev w3 ⟨v3, rfl, hv3, -, hb3⟩
      rw [HBB.out] at hv3
      obtain ⟨pv, rfl, hpg⟩ := hv3
      obtain ⟨A3, c3, rfl, -, -⟩ := id hpg
      have HPG := Aside0.mk (PgIn.of hpg)
      have HB3 := Aside0.mk (below_step HB.out hb3)
      have HR3 := Aside0.mk (Kd.R_below HR.out hb3)
      have HF3 := Aside0.mk (HF.out.keep hb3)
      have HOW := Aside0.mk (fun q hq => ((Kd.R_bound HR.out).1 q hq).2.2.1)
      have HSZ := Aside0.mk hb3.size
      obtain ⟨p, hp⟩ : ∃ p : Sl, (A3, B.pages.length, c3) = p := ⟨_, rfl⟩
      have HP := Aside0.mk hp
      clear hpg hb3 HR HF hp
      go_wp2_with ((with_reducible refine gate_builtin (b := .append) (xs := #[.tmp 15, .tmp 19]) rfl ?_); at_builtin; refine Kd.R_append kF (w0 := w) w.heap.size rfl (.tmp 15) (.tmp 19) 56 36 (.agg #[.bool false, .int .i64 0, .int .i64 0, .slice none 0 0]) 48 rfl Try.underlying56 (by kernel_rfl) rfl (by decide) (by omega) _ l ⟨B.bad, B.next, B.count, (A3, B.pages.length, c3)⟩ [.bool B.bad, .int .i64 B.next, .int .i64 B.count, .slice A3 B.pages.length c3] (fun _ => True) (fun _ => False) rfl rfl (kF_mkM _ _ _ _) (fun _ hk => hk.elim) (fun _ _ => trivial) HR3.out HB3.out HB3.out.size ?aL ?_; (case aL => have h1 := HF3.out.len; have h2 := HLT.out; have h3 := HN.out; rw [h1]; omega); intro v1 w1 ho hb1 hg1 hat1; have HO := Aside0.mk ho; have HB1 := Aside0.mk hb1; have HG1 := Aside0.mk hg1; have HAT := Aside0.mk hat1; clear ho hb1 hg1 hat1)
      go_roundw
      case measure =>
        have hm : s.blocks.length - ((k + 1 : Nat) : Int).toNat < s.blocks.length - ((k : Nat) : Int).toNat := by
          rw [Int.toNat_natCast, Int.toNat_natCast]
          exact Nat.sub_lt_sub_left HLT.out (Nat.lt_succ_self k)
        first | exact hm | (rw [hw2]; exact hm)
      case rel => exact ⟨k + 1, _, HLT.out, by first | rw [hw2] | rfl, HO, ⟨HF3.out.step (fun q hq hn => HG1.out.block q hq (fun e => hn e.symm)) HG1.out.size HAT.out HBK.out HPG.out HB.out.size HOW.out⟩, HB1⟩
    · have he : k = s.blocks.length := by omega
      subst he
      have hn : ¬ (((s.blocks.length : Nat) : Int) < (s.blocks.length : Int)) := by omega
      clear hlt hk
      go_wp2_with fail
      go_ret
      refine ⟨_, rfl, l, HR.out, ⟨HF.out.len, fun i B hB => by
        obtain ⟨p, lo, hi, e1, e2, e3, -, -⟩ := HF.out.at_ i B (List.getElem?_eq_some_iff.1 hB).1 hB
        exact ⟨p, e1, e2.pgs e3⟩⟩, HH.out, HB.out⟩
end Go.Proofs.Ytloldgiggnhemaa.Cm
