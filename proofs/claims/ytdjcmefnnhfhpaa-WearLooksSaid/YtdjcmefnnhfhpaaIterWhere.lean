/-
  turn.Where: its function value gives the places that are true, rising; the list is copied when Where is called.
-/
import Derived.Test.YtdjcmefnnhfhpaaIter
import Derived.Test.YtdjcmefnnhfhpaaCloneBool
set_option linter.unusedVariables false
set_option linter.unusedSimpArgs false
namespace Go.Proofs.Ytdjcmefnnhfhpaa.Iter
open Go.RowKit Go.Shelf Go.Proofs.YtdjcmefnnhfhpaaW.PrintWords
attribute [local go_sem] Oper.semAt_some

theorem KpS.cell {S : Nat → Prop} {W W' : World} (h : KpS S W W') {a : Addr} {v : Value} (hs : S a.block) (hc : W.cell? a = some v) : W'.cell? a = some v := by
  unfold World.cell? at hc ⊢
  cases hh : W.heap[a.block]? with
  | none => rw [hh] at hc; cases hc
  | some o =>
    rw [hh] at hc
    cases o <;> try (cases hc; done)
    rename_i cs t f
    rw [h _ hs _ _ _ hh]
    exact hc
theorem bool_at {w : World} {A : Option Addr} {n : Nat} {xs : List Bool} (h : Kd.bool.C w A n xs) (j : Nat) (hj : j < n) : ∃ ad, A = some ad ∧ w.cell? (ad.add j) = some (.bool (xs.getD j false)) := by
  obtain ⟨ad, c, e, _, hK, hc⟩ := Kd.C_get h false (j : Int) (by omega) (by omega)
  have hk : c = [.bool (xs.getD j false)] := hK
  refine ⟨ad, e, ?_⟩
  have hz := hc 0 (.bool (xs.getD j false)) (by rw [hk]; rfl)
  simpa [Kd.bool, Kd.scalar] using hz

/-- The places that are true, from one on. -/
def wl : Int → List Bool → List Int
  | _, [] => []
  | i, b :: l => if b = true then i :: wl (i + 1) l else wl (i + 1) l
theorem wl_append : ∀ (l r : List Bool) (i : Int), wl i (l ++ r) = wl i l ++ wl (i + l.length) r
  | [], r, i => by simp [wl]
  | b :: l, r, i => by
    have ih := wl_append l r (i + 1)
    have e : i + 1 + (l.length : Int) = i + ((b :: l).length : Int) := by simp; omega
    rw [e] at ih
    show (if b = true then i :: wl (i + 1) (l ++ r) else wl (i + 1) (l ++ r)) = (if b = true then i :: wl (i + 1) l else wl (i + 1) l) ++ _
    rw [ih]
    split <;> rfl
theorem wl_take (l : List Bool) (j : Nat) (h : j < l.length) : wl 0 (l.take (j + 1)) = wl 0 (l.take j) ++ if l.getD j false = true then [(j : Int)] else [] := by
  rw [List.take_succ_eq_append_getElem h, wl_append]
  have hl : ((l.take j).length : Int) = (j : Int) := by simp; omega
  have hg : l.getD j false = l[j] := by rw [List.getD_eq_getElem?_getD, List.getElem?_eq_getElem h]; rfl
  rw [hl, hg]
  cases l[j] <;> simp [wl]
theorem wl_prefix (l : List Bool) (j : Nat) : wl 0 (l.take j) <+: wl 0 l := by
  have := wl_append (l.take j) (l.drop j) 0
  rw [List.take_append_drop] at this
  rw [this]
  exact List.prefix_append _ _
theorem wl_length_le : ∀ (l : List Bool) (i : Int), (wl i l).length ≤ l.length
  | [], _ => Nat.le_refl _
  | b :: l, i => by
    have := wl_length_le l (i + 1)
    unfold wl
    split <;> simp <;> omega

/-- The blocks that Where's value reads. -/
def WhereS (Bk : Nat) (A : Option Addr) : Nat → Prop := fun k => k = Bk ∨ ∃ ad, A = some ad ∧ k = ad.block

set_option maxHeartbeats 2000000 in
set_option maxRecDepth 100000 in
theorem where1_in (m : Nat) (l Bk : Nat) (A : Option Addr) (c : Nat) (xs : List Bool) (J Jx : List Int → World → Prop)
    (hY : ∀ pre x W, J pre W → pre ++ [x] <+: wl 0 xs → YieldAt Fence.wide (m - 1) Try.prog l #[.int .i64 x] W fun e W' =>
      (e = .returned (.bool true) ∧ J (pre ++ [x]) W' ∧ KpS (WhereS Bk A) W W') ∨ (e = .returned (.bool false) ∧ Jx (pre ++ [x]) W'))
    (W : World) (hBk : W.cell? ⟨Bk, 0, none⟩ = some (.slice A xs.length c)) (hC : Kd.bool.C W A xs.length xs) (hlim : xs.length ≤ 1000000) (h0 : J [] W) :
    CallsIn Fence.wide m Try.prog 30 #[.func (.yield l) #[] #[], .pointer (some ⟨Bk, 0, none⟩)] W fun e W' => (∃ v, e = .returned v) ∧
      ((∃ ys, ys = wl 0 xs ∧ J ys W') ∨ (∃ pre, pre <+: wl 0 xs ∧ Jx pre W')) := by
  refine callsIn_of_wp Try.func30 rfl trivial ?_ rfl
  simp only [Try.ntmps30, List.size_toArray, List.length_cons, List.length_nil, Nat.reduceAdd, Nat.reduceSub, Array.replicate_succ, Array.replicate_zero, List.push_toArray, List.append_toArray, List.nil_append, List.cons_append]
  have HC := Aside0.mk hC
  clear hC
  gi_wp2
  gi_loopw [7] (fun v7 wr => ∃ k : Nat, k ≤ xs.length ∧ v7 = .int .i64 (k : Int) ∧ J (wl 0 (xs.take k)) wr ∧ Aside0 (KpS (WhereS Bk A) W wr)) (fun v7 wr => xs.length - (intOf v7).toNat)
  case atStart => exact ⟨0, Nat.zero_le _, rfl, by simpa [wl] using h0, ⟨KpS.refl _ _⟩⟩
  case round =>
    obtain ⟨k, hk, rfl, hJ, HK⟩ := hrel
    by_cases hlt : k < xs.length
    · obtain ⟨ad, e, hcell⟩ := bool_at HC.out k hlt
      cases e
      have hv := HK.out.cell (a := ad.add k) (by rw [add_block]; exact .inr ⟨ad, rfl, rfl⟩) hcell
      have Htk := Aside0.mk (wl_take xs k hlt)
      have hpl : (wl 0 (xs.take k)).length ≤ (wl 0 xs).length := (wl_prefix xs k).length_le
      have Hpl := Aside0.mk hpl
      have hpl2 : (wl 0 (xs.take (k + 1))).length ≤ (wl 0 xs).length := (wl_prefix xs (k + 1)).length_le
      have Hpl2 := Aside0.mk hpl2
      have Hpx := Aside0.mk (wl_prefix xs (k + 1))
      clear hcell hpl hpl2
      cases hb : xs.getD k false with
      | true =>
        rw [hb] at hv Htk
        have hpn : wl 0 (xs.take k) ++ [(k : Int)] <+: wl 0 xs := by have h1 := Hpx.out; rw [Htk.out] at h1; simpa using h1
        obtain ⟨fn, tmps, assign, body, hy, hR⟩ := hY _ (k : Int) wr hJ hpn
        clear hb hpn
        gi_wp2_with ((try refine ⟨hdd _, ?_⟩); refine hR.mono ?_; clear hR; rintro e W2 (⟨rfl, hJ2, hk2⟩ | ⟨rfl, hx2⟩))
        · have HK2 := Aside0.mk (HK.out.trans hk2)
          clear hk2
          go_roundw
          case rel => exact ⟨k + 1, by omega, by go_num, by rw [Htk.out]; simpa using hJ2, HK2⟩
          case measure => simp [intOf]; omega
        · refine bodyPost_ret (results_none rfl _ _ _) rfl ?_
          exact ⟨⟨_, rfl⟩, .inr ⟨_, Hpx.out, by rw [Htk.out]; simpa using hx2⟩⟩
      | false =>
        rw [hb] at hv Htk
        clear hb
        gi_wp2
        refine ⟨fun _ h => (by cases h), ?_⟩
        gi_wp2
        go_roundw
        case rel => exact ⟨k + 1, by omega, by go_num, by rw [Htk.out]; simpa using hJ, HK⟩
        case measure => simp [intOf]; omega
    · have hke : k = xs.length := by omega
      subst hke
      rw [List.take_length] at hJ
      gi_wp2
      go_end0
      exact ⟨⟨_, rfl⟩, .inl ⟨_, rfl, hJ⟩⟩

set_option maxHeartbeats 1000000 in
set_option maxRecDepth 100000 in
theorem where_calls (A : Option Addr) (c : Nat) (xs : List Bool) (w : World) (hr : Kd.C Kd.bool w A xs.length xs) (hc : xs.length ≤ c) (hl : xs.length * 1 ≤ 140737488355328) :
    Calls Try.prog 28 #[.slice A xs.length c] w fun e w' => ∃ g A1 c1, e = .returned (.func (.func 30) #[] #[.pointer (some ⟨g, 0, none⟩)]) ∧
      w'.heap[g]? = some (.cells #[.slice A1 xs.length c1] 23 (0, 0)) ∧ Kd.C Kd.bool w' A1 xs.length xs ∧ w.heap.size ≤ g ∧ (∀ ad, A1 = some ad → w.heap.size ≤ ad.block ∧ ad.block < w'.heap.size) ∧ Below w.heap.size w w' := by
  go_enter Try.func28, Try.ntmps28
  go_wp2_with fail
  refine (CloneBool.calls A c xs w hr hc hl).mono ?_
  rintro e w1 ⟨v, rfl, hR, hb⟩
  have hbase : ∀ k, v.ownBlock = some k → w.heap.size ≤ k ∧ k < w1.heap.size := fun k hk => by
    obtain ⟨inner, ho⟩ := Kd.R_own hR
    exact ⟨own_base ho k hk, own_lt ho k hk⟩
  obtain ⟨A1, c1, rfl, hl1, hC⟩ := Kd.R_reads hR
  have HC := Aside0.mk hC
  have HB := Aside0.mk hb
  have HBS := Aside0.mk hbase
  clear hC hb hbase hR hr
  go_wp2
  go_ret
  refine ⟨_, A1, c1, rfl, World.alloc_heap_new _ _, Kd.C_alloc HC.out _, HB.out.size, fun ad h => ⟨(HBS.out _ (by rw [h]; rfl)).1, by have := (HBS.out ad.block (by rw [h]; rfl)).2; simp; omega⟩, below_alloc HB.out _⟩

theorem where_stops (m : Nat) (g : Nat) (A : Option Addr) (c : Nat) (xs : List Bool) (w : World) (hg : w.heap[g]? = some (.cells #[.slice A xs.length c] 23 (0, 0))) (hC : Kd.bool.C w A xs.length xs) (hlim : xs.length ≤ 1000000) :
    SeqStopsK Fence.wide m Try.prog 30 #[.pointer (some ⟨g, 0, none⟩)] (fun x : Int => #[Value.int .i64 x]) (KpS (WhereS g A)) (fun ys => ys = wl 0 xs) (fun pre => pre <+: wl 0 xs) (wl 0 xs).length w := fun l J Jx W hW _ _ hY h0 => by
  have a := (hW.block g (Array.getElem?_eq_some_iff.1 hg).1).trans hg
  exact where1_in m l g A c xs J Jx (fun pre x W1 hJ hp => hY pre x W1 hJ (by have := hp.length_le; simp at this; omega)) W (by simp [World.cell?, a]) (Kd.C_below hC hW) hlim h0
/-- The same, where the loop's body wants to know that a place is one of the list's. -/
abbrev PlaceOf (n : Nat) : Type := { x : Int // 0 ≤ x ∧ x < n }
theorem wl_bounds : ∀ (l : List Bool) (i x : Int), x ∈ wl i l → i ≤ x ∧ x < i + l.length
  | [], i, x, h => by simp [wl] at h
  | b :: l, i, x, h => by
    have hl : ((b :: l).length : Int) = (l.length : Int) + 1 := by simp
    rw [hl]
    unfold wl at h
    split at h
    · rcases List.mem_cons.1 h with rfl | h
      · omega
      · have := wl_bounds l (i + 1) x h; omega
    · have := wl_bounds l (i + 1) x h; omega
theorem where_places (m : Nat) (g : Nat) (A : Option Addr) (c : Nat) (xs : List Bool) (w : World) (hg : w.heap[g]? = some (.cells #[.slice A xs.length c] 23 (0, 0))) (hC : Kd.bool.C w A xs.length xs) (hlim : xs.length ≤ 1000000) :
    SeqStopsK Fence.wide m Try.prog 30 #[.pointer (some ⟨g, 0, none⟩)] (fun x : PlaceOf xs.length => #[Value.int .i64 x.1]) (KpS (WhereS g A)) (fun ys => ys.map (·.1) = wl 0 xs) (fun pre => pre.map (·.1) <+: wl 0 xs) (wl 0 xs).length w := fun l J Jx W hW _ _ hY h0 => by
  have a := (hW.block g (Array.getElem?_eq_some_iff.1 hg).1).trans hg
  refine (where1_in m l g A c xs (fun pre W => ∃ ys : List (PlaceOf xs.length), ys.map (·.1) = pre ∧ J ys W) (fun pre W => ∃ ys : List (PlaceOf xs.length), ys.map (·.1) = pre ∧ Jx ys W) (fun pre x W1 hJ hp => ?_) W (by simp [World.cell?, a]) (Kd.C_below hC hW) hlim ⟨[], rfl, h0⟩).mono ?_
  · obtain ⟨ys, rfl, hJ⟩ := hJ
    have hx := wl_bounds xs 0 x (hp.subset (by simp))
    have hl : ys.length < (wl 0 xs).length := by have := hp.length_le; simp at this; omega
    obtain ⟨fn, tmps, assign, body, hy, hR⟩ := hY ys ⟨x, by omega⟩ W1 hJ hl
    refine ⟨fn, tmps, assign, body, hy, hR.mono ?_⟩
    rintro e W' (⟨h1, h2, h3⟩ | ⟨h1, h2⟩)
    · exact .inl ⟨h1, ⟨_, by simp, h2⟩, h3⟩
    · exact .inr ⟨h1, ⟨_, by simp, h2⟩⟩
  · rintro e W' ⟨h1, ⟨ys, rfl, zs, h2, h3⟩ | ⟨pre, hp, zs, rfl, h3⟩⟩
    · exact ⟨h1, .inl ⟨zs, h2, h3⟩⟩
    · exact ⟨h1, .inr ⟨zs, hp, h3⟩⟩
end Go.Proofs.Ytdjcmefnnhfhpaa.Iter
