/-  The layings of the kit's contracts on slices.Sorted(maps.Keys(m)) at this program, in plain words: printed by the kit's tools; keys that are texts, keys that are numbers.  -/
import Derived.Shelf.SlIter.Nil
import Derived.Shelf.SlIterI.Nil
import Derived.Shelf.SortM.Plain
import Derived.Shelf.SortM.SortNone
import Derived.Ground.GgzProg
import Derived.Ground.SlgmProg
import Derived.Test.YthnicdafglohbaaProg
namespace Go.Proofs.Ythnicdafglohbaa.Sk
open Go.RowKit Go.Maps Go.Sort Go.Shelf Go.Proofs

def keys27_ren : Go.Shelf.Ren := ⟨fun | 7 => 27 | 10 => 41 | n => n, fun | 23 => 54 | 26 => 9 | 3 => 3 | 28 => 60 | 0 => 0 | 27 => 59 | 33 => 62 | 4 => 4 | n => n, fun | n => n⟩
theorem keys27 : Go.Proofs.SlLaysZ.n7 Try.prog keys27_ren := {
  mixed := by kernel_rfl
  f7 := ⟨Try.f27.name, by decide, Try.func27.trans (congrArg some (by kernel_rfl))⟩
  f10 := ⟨Try.f41.name, by decide, Try.func41.trans (congrArg some (by kernel_rfl))⟩
  t0 := Try.underlying0
  a0 := Try.isAgg0
  z0 := Try.sizeOf0
  v0 := Try.zeroValue0
  t4 := Try.underlying4
  a4 := Try.isAgg4
  z4 := Try.sizeOf4
  v4 := Try.zeroValue4
  t23 := Try.underlying54
  a23 := Try.isAgg54
  z23 := Try.sizeOf54
  v23 := Try.zeroValue54
  t26 := Try.underlying9
  a26 := Try.isAgg9
  z26 := Try.sizeOf9
  v26 := Try.zeroValue9
  t27 := Try.underlying59
  a27 := Try.isAgg59
  z27 := Try.sizeOf59
  v27 := Try.zeroValue59
  t28 := Try.underlying60
  a28 := Try.isAgg60
  z28 := Try.sizeOf60
  v28 := Try.zeroValue60
  t33 := Try.underlying62
  a33 := Try.isAgg62
  z33 := Try.sizeOf62
  v33 := Try.zeroValue62 }
def sorted26_ren : Go.Shelf.Ren := ⟨fun | 6 => 26 | 8 => 39 | 9 => 40 | 11 => 46 | 13 => 48 | 12 => 47 | 23 => 60 | 24 => 61 | 14 => 51 | 15 => 52 | 16 => 53 | 17 => 54 | 18 => 55 | 19 => 56 | 20 => 57 | 21 => 58 | 22 => 59 | 25 => 71 | 26 => 72 | 27 => 73 | 28 => 74 | 29 => 75 | 30 => 76 | 31 => 81 | n => n, fun | 26 => 9 | 28 => 60 | 24 => 23 | 0 => 0 | 3 => 3 | 37 => 78 | 48 => 91 | 50 => 29 | 4 => 4 | 40 => 83 | 39 => 82 | 45 => 88 | 5 => 5 | 9 => 9 | 51 => 98 | 55 => 102 | 57 => 106 | 58 => 107 | 33 => 62 | n => n, fun | n => n⟩
theorem sorted26 : Go.Proofs.SlLaysZ.n6 Try.prog sorted26_ren := {
  mixed := by kernel_rfl
  f6 := ⟨Try.f26.name, by decide, Try.func26.trans (congrArg some (by kernel_rfl))⟩
  f8 := ⟨Try.f39.name, by decide, Try.func39.trans (congrArg some (by kernel_rfl))⟩
  f11 := ⟨Try.f46.name, by decide, Try.func46.trans (congrArg some (by kernel_rfl))⟩
  t0 := Try.underlying0
  a0 := Try.isAgg0
  z0 := Try.sizeOf0
  v0 := Try.zeroValue0
  t24 := Try.underlying23
  a24 := Try.isAgg23
  z24 := Try.sizeOf23
  v24 := Try.zeroValue23
  t26 := Try.underlying9
  a26 := Try.isAgg9
  z26 := Try.sizeOf9
  v26 := Try.zeroValue9
  t28 := Try.underlying60
  a28 := Try.isAgg60
  z28 := Try.sizeOf60
  v28 := Try.zeroValue60
  i26 := by kernel_rfl }
def sort40_ren : Go.Shelf.Ren := ⟨fun | 6 => 40 | 8 => 48 | 9 => 47 | 19 => 60 | 20 => 61 | 21 => 51 | 22 => 52 | 23 => 53 | 24 => 54 | 25 => 55 | 26 => 56 | 27 => 57 | 28 => 58 | 29 => 59 | 36 => 71 | 31 => 72 | 32 => 73 | 37 => 74 | 38 => 75 | 39 => 76 | 41 => 81 | n => n, fun | 27 => 23 | 29 => 9 | 3 => 3 | 32 => 78 | 26 => 23 | 0 => 0 | 44 => 91 | 46 => 29 | 4 => 4 | 36 => 83 | 35 => 82 | 41 => 88 | 5 => 5 | 9 => 9 | 53 => 98 | 57 => 102 | 63 => 106 | 64 => 107 | n => n, fun | n => n⟩
theorem sort40 : Go.Proofs.SlLaysM.n6 Try.prog sort40_ren := {
  mixed := by kernel_rfl
  f6 := ⟨Try.f40.name, by decide, Try.func40.trans (congrArg some (by kernel_rfl))⟩
  f8 := Try.func48.trans (congrArg some (by kernel_rfl))
  f9 := ⟨Try.f47.name, by decide, Try.func47.trans (congrArg some (by kernel_rfl))⟩
  f19 := Try.func60.trans (congrArg some (by kernel_rfl))
  f20 := Try.func61.trans (congrArg some (by kernel_rfl))
  f21 := ⟨Try.f51.name, by decide, Try.func51.trans (congrArg some (by kernel_rfl))⟩
  f22 := ⟨Try.f52.name, by decide, Try.func52.trans (congrArg some (by kernel_rfl))⟩
  f23 := ⟨Try.f53.name, by decide, Try.func53.trans (congrArg some (by kernel_rfl))⟩
  f24 := ⟨Try.f54.name, by decide, Try.func54.trans (congrArg some (by kernel_rfl))⟩
  f25 := ⟨Try.f55.name, by decide, Try.func55.trans (congrArg some (by kernel_rfl))⟩
  f26 := ⟨Try.f56.name, by decide, Try.func56.trans (congrArg some (by kernel_rfl))⟩
  f27 := ⟨Try.f57.name, by decide, Try.func57.trans (congrArg some (by kernel_rfl))⟩
  f28 := ⟨Try.f58.name, by decide, Try.func58.trans (congrArg some (by kernel_rfl))⟩
  f29 := ⟨Try.f59.name, by decide, Try.func59.trans (congrArg some (by kernel_rfl))⟩
  f31 := Try.func72.trans (congrArg some (by kernel_rfl))
  f32 := Try.func73.trans (congrArg some (by kernel_rfl))
  f36 := ⟨Try.f71.name, by decide, Try.func71.trans (congrArg some (by kernel_rfl))⟩
  f37 := ⟨Try.f74.name, by decide, Try.func74.trans (congrArg some (by kernel_rfl))⟩
  f38 := ⟨Try.f75.name, by decide, Try.func75.trans (congrArg some (by kernel_rfl))⟩
  f39 := ⟨Try.f76.name, by decide, Try.func76.trans (congrArg some (by kernel_rfl))⟩
  f41 := ⟨Try.f81.name, by decide, Try.func81.trans (congrArg some (by kernel_rfl))⟩
  t0 := Try.underlying0
  a0 := Try.isAgg0
  z0 := Try.sizeOf0
  v0 := Try.zeroValue0
  t3 := Try.underlying3
  a3 := Try.isAgg3
  z3 := Try.sizeOf3
  v3 := Try.zeroValue3
  t4 := Try.underlying4
  a4 := Try.isAgg4
  z4 := Try.sizeOf4
  v4 := Try.zeroValue4
  t5 := Try.underlying5
  a5 := Try.isAgg5
  z5 := Try.sizeOf5
  v5 := Try.zeroValue5
  t9 := Try.underlying9
  a9 := Try.isAgg9
  z9 := Try.sizeOf9
  v9 := Try.zeroValue9
  t26 := Try.underlying23
  a26 := Try.isAgg23
  z26 := Try.sizeOf23
  v26 := Try.zeroValue23
  t27 := Try.underlying23
  a27 := Try.isAgg23
  z27 := Try.sizeOf23
  v27 := Try.zeroValue23
  t29 := Try.underlying9
  a29 := Try.isAgg9
  z29 := Try.sizeOf9
  v29 := Try.zeroValue9
  t32 := Try.underlying78
  a32 := Try.isAgg78
  z32 := Try.sizeOf78
  v32 := Try.zeroValue78
  t35 := Try.underlying82
  a35 := Try.isAgg82
  z35 := Try.sizeOf82
  v35 := Try.zeroValue82
  t36 := Try.underlying83
  a36 := Try.isAgg83
  z36 := Try.sizeOf83
  v36 := Try.zeroValue83
  t41 := Try.underlying88
  a41 := Try.isAgg88
  z41 := Try.sizeOf88
  v41 := Try.zeroValue88
  t44 := Try.underlying91
  a44 := Try.isAgg91
  z44 := Try.sizeOf91
  v44 := Try.zeroValue91
  t46 := Try.underlying29
  a46 := Try.isAgg29
  z46 := Try.sizeOf29
  v46 := Try.zeroValue29
  t53 := Try.underlying98
  a53 := Try.isAgg98
  z53 := Try.sizeOf98
  v53 := Try.zeroValue98
  t57 := Try.underlying102
  a57 := Try.isAgg102
  z57 := Try.sizeOf102
  v57 := Try.zeroValue102
  t63 := Try.underlying106
  a63 := Try.isAgg106
  z63 := Try.sizeOf106
  v63 := Try.zeroValue106
  t64 := Try.underlying107
  a64 := Try.isAgg107
  z64 := Try.sizeOf107
  v64 := Try.zeroValue107 }
def keys34_ren : Go.Shelf.Ren := ⟨fun | 7 => 34 | 10 => 45 | n => n, fun | 23 => 44 | 26 => 3 | 3 => 3 | 28 => 67 | 0 => 0 | 27 => 66 | 33 => 69 | 4 => 4 | n => n, fun | n => n⟩
theorem keys34 : Go.Proofs.SlLaysZI.n7 Try.prog keys34_ren := {
  mixed := by kernel_rfl
  f7 := ⟨Try.f34.name, by decide, Try.func34.trans (congrArg some (by kernel_rfl))⟩
  f10 := ⟨Try.f45.name, by decide, Try.func45.trans (congrArg some (by kernel_rfl))⟩
  t0 := Try.underlying0
  a0 := Try.isAgg0
  z0 := Try.sizeOf0
  v0 := Try.zeroValue0
  t4 := Try.underlying4
  a4 := Try.isAgg4
  z4 := Try.sizeOf4
  v4 := Try.zeroValue4
  t23 := Try.underlying44
  a23 := Try.isAgg44
  z23 := Try.sizeOf44
  v23 := Try.zeroValue44
  t26 := Try.underlying3
  a26 := Try.isAgg3
  z26 := Try.sizeOf3
  v26 := Try.zeroValue3
  t27 := Try.underlying66
  a27 := Try.isAgg66
  z27 := Try.sizeOf66
  v27 := Try.zeroValue66
  t28 := Try.underlying67
  a28 := Try.isAgg67
  z28 := Try.sizeOf67
  v28 := Try.zeroValue67
  t33 := Try.underlying69
  a33 := Try.isAgg69
  z33 := Try.sizeOf69
  v33 := Try.zeroValue69 }
def sorted33_ren : Go.Shelf.Ren := ⟨fun | 6 => 33 | 8 => 43 | 9 => 44 | 11 => 49 | 13 => 48 | 12 => 50 | 23 => 60 | 24 => 61 | 14 => 62 | 15 => 63 | 16 => 64 | 17 => 65 | 18 => 66 | 19 => 67 | 20 => 68 | 21 => 69 | 22 => 70 | 25 => 77 | 26 => 72 | 27 => 73 | 28 => 78 | 29 => 79 | 30 => 80 | 31 => 82 | n => n, fun | 26 => 3 | 28 => 67 | 24 => 22 | 0 => 0 | 3 => 3 | 37 => 78 | 48 => 91 | 50 => 29 | 4 => 4 | 40 => 83 | 39 => 82 | 45 => 88 | 5 => 5 | 9 => 9 | 51 => 98 | 55 => 102 | 57 => 106 | 58 => 107 | 33 => 69 | n => n, fun | n => n⟩
theorem sorted33 : Go.Proofs.SlLaysZI.n6 Try.prog sorted33_ren := {
  mixed := by kernel_rfl
  f6 := ⟨Try.f33.name, by decide, Try.func33.trans (congrArg some (by kernel_rfl))⟩
  f8 := ⟨Try.f43.name, by decide, Try.func43.trans (congrArg some (by kernel_rfl))⟩
  f11 := ⟨Try.f49.name, by decide, Try.func49.trans (congrArg some (by kernel_rfl))⟩
  t0 := Try.underlying0
  a0 := Try.isAgg0
  z0 := Try.sizeOf0
  v0 := Try.zeroValue0
  t24 := Try.underlying22
  a24 := Try.isAgg22
  z24 := Try.sizeOf22
  v24 := Try.zeroValue22
  t26 := Try.underlying3
  a26 := Try.isAgg3
  z26 := Try.sizeOf3
  v26 := Try.zeroValue3
  t28 := Try.underlying67
  a28 := Try.isAgg67
  z28 := Try.sizeOf67
  v28 := Try.zeroValue67
  i26 := by kernel_rfl }
def sort44_ren : Go.Shelf.Ren := ⟨fun | 5 => 44 | 8 => 48 | 7 => 50 | 19 => 60 | 20 => 61 | 10 => 62 | 11 => 63 | 12 => 64 | 13 => 65 | 14 => 66 | 15 => 67 | 16 => 68 | 17 => 69 | 18 => 70 | 30 => 77 | 31 => 72 | 32 => 73 | 33 => 78 | 34 => 79 | 35 => 80 | 40 => 82 | n => n, fun | 23 => 22 | 25 => 3 | 3 => 3 | 32 => 78 | 22 => 22 | 0 => 0 | 44 => 91 | 46 => 29 | 4 => 4 | 36 => 83 | 35 => 82 | 41 => 88 | 5 => 5 | 9 => 9 | 53 => 98 | 57 => 102 | 63 => 106 | 64 => 107 | n => n, fun | n => n⟩
theorem sort44 : Go.Proofs.SlLaysM.n5 Try.prog sort44_ren := {
  mixed := by kernel_rfl
  f5 := ⟨Try.f44.name, by decide, Try.func44.trans (congrArg some (by kernel_rfl))⟩
  f7 := ⟨Try.f50.name, by decide, Try.func50.trans (congrArg some (by kernel_rfl))⟩
  f8 := Try.func48.trans (congrArg some (by kernel_rfl))
  f10 := ⟨Try.f62.name, by decide, Try.func62.trans (congrArg some (by kernel_rfl))⟩
  f11 := ⟨Try.f63.name, by decide, Try.func63.trans (congrArg some (by kernel_rfl))⟩
  f12 := ⟨Try.f64.name, by decide, Try.func64.trans (congrArg some (by kernel_rfl))⟩
  f13 := ⟨Try.f65.name, by decide, Try.func65.trans (congrArg some (by kernel_rfl))⟩
  f14 := ⟨Try.f66.name, by decide, Try.func66.trans (congrArg some (by kernel_rfl))⟩
  f15 := ⟨Try.f67.name, by decide, Try.func67.trans (congrArg some (by kernel_rfl))⟩
  f16 := ⟨Try.f68.name, by decide, Try.func68.trans (congrArg some (by kernel_rfl))⟩
  f17 := ⟨Try.f69.name, by decide, Try.func69.trans (congrArg some (by kernel_rfl))⟩
  f18 := ⟨Try.f70.name, by decide, Try.func70.trans (congrArg some (by kernel_rfl))⟩
  f19 := Try.func60.trans (congrArg some (by kernel_rfl))
  f20 := Try.func61.trans (congrArg some (by kernel_rfl))
  f30 := ⟨Try.f77.name, by decide, Try.func77.trans (congrArg some (by kernel_rfl))⟩
  f31 := Try.func72.trans (congrArg some (by kernel_rfl))
  f32 := Try.func73.trans (congrArg some (by kernel_rfl))
  f33 := ⟨Try.f78.name, by decide, Try.func78.trans (congrArg some (by kernel_rfl))⟩
  f34 := ⟨Try.f79.name, by decide, Try.func79.trans (congrArg some (by kernel_rfl))⟩
  f35 := ⟨Try.f80.name, by decide, Try.func80.trans (congrArg some (by kernel_rfl))⟩
  f40 := ⟨Try.f82.name, by decide, Try.func82.trans (congrArg some (by kernel_rfl))⟩
  t0 := Try.underlying0
  a0 := Try.isAgg0
  z0 := Try.sizeOf0
  v0 := Try.zeroValue0
  t3 := Try.underlying3
  a3 := Try.isAgg3
  z3 := Try.sizeOf3
  v3 := Try.zeroValue3
  t4 := Try.underlying4
  a4 := Try.isAgg4
  z4 := Try.sizeOf4
  v4 := Try.zeroValue4
  t5 := Try.underlying5
  a5 := Try.isAgg5
  z5 := Try.sizeOf5
  v5 := Try.zeroValue5
  t9 := Try.underlying9
  a9 := Try.isAgg9
  z9 := Try.sizeOf9
  v9 := Try.zeroValue9
  t22 := Try.underlying22
  a22 := Try.isAgg22
  z22 := Try.sizeOf22
  v22 := Try.zeroValue22
  t23 := Try.underlying22
  a23 := Try.isAgg22
  z23 := Try.sizeOf22
  v23 := Try.zeroValue22
  t25 := Try.underlying3
  a25 := Try.isAgg3
  z25 := Try.sizeOf3
  v25 := Try.zeroValue3
  t32 := Try.underlying78
  a32 := Try.isAgg78
  z32 := Try.sizeOf78
  v32 := Try.zeroValue78
  t35 := Try.underlying82
  a35 := Try.isAgg82
  z35 := Try.sizeOf82
  v35 := Try.zeroValue82
  t36 := Try.underlying83
  a36 := Try.isAgg83
  z36 := Try.sizeOf83
  v36 := Try.zeroValue83
  t41 := Try.underlying88
  a41 := Try.isAgg88
  z41 := Try.sizeOf88
  v41 := Try.zeroValue88
  t44 := Try.underlying91
  a44 := Try.isAgg91
  z44 := Try.sizeOf91
  v44 := Try.zeroValue91
  t46 := Try.underlying29
  a46 := Try.isAgg29
  z46 := Try.sizeOf29
  v46 := Try.zeroValue29
  t53 := Try.underlying98
  a53 := Try.isAgg98
  z53 := Try.sizeOf98
  v53 := Try.zeroValue98
  t57 := Try.underlying102
  a57 := Try.isAgg102
  z57 := Try.sizeOf102
  v57 := Try.zeroValue102
  t63 := Try.underlying106
  a63 := Try.isAgg106
  z63 := Try.sizeOf106
  v63 := Try.zeroValue106
  t64 := Try.underlying107
  a64 := Try.isAgg107
  z64 := Try.sizeOf107
  v64 := Try.zeroValue107 }

/-- slices.Sort's two contracts at this dump, at the fence that asks nothing. -/
theorem sorts26 (m : Nat) : AnyZ.SortsIn Try.prog sorted26_ren Fence.wide m :=
  ⟨fun blk off cap ss W hH hblk hsz => callsIn_wide.2 (AnyM.slices_Sort_string sort40 blk off cap ss W hH hblk hsz),
   fun p cap W => callsIn_wide.2 (AnyM.slices_Sort_string_none sort40 p cap W)⟩

/-- maps.Keys, at whatever map, the nil one too: a function value over ONE NEW BLOCK, which holds the map. -/
theorem maps_Keys_27 (mb : Option Nat) (W : World) : CallsIn Fence.wide 5 Try.prog 27 #[.map mb] W fun e w' => e = .returned (.func (.func 41) #[] #[.pointer (some ⟨W.heap.size, 0, none⟩)]) ∧ w' = W.alloc (.cells #[.map mb] 54) :=
  AnyZ.keys_in keys27 Fence.wide 5 trivial rfl mb W

set_option maxHeartbeats 1000000 in
/-- slices.Sorted AT WHAT maps.Keys HANDED BACK FOR A MAP THAT IS NOT nil ('w': the world AHEAD of maps.Keys' call): A NEW SLICE THAT HOLDS THE MAP's KEYS, SORTED; nil just where it has none; nothing that lay before has turned. -/
theorem slices_Sorted_keys_26_27 {H : Type} (b nn : Nat) (D0 : DataW H) (R : Value → Option (DataW H × List MemPlace)) (w : World) (hown : w.ownsMap Try.prog 9 R b nn D0) (hmax : Maps.size D0 ≤ maxLen) (hbytes : Maps.size D0 * 16 ≤ 140737488355328) :
    CallsIn Fence.wide 5 Try.prog 26 #[.func (.func 41) #[] #[.pointer (some ⟨w.heap.size, 0, none⟩)]] (w.alloc (.cells #[.map (some b)] 54)) fun e w' => ∃ (v : Value) (ss : List (List UInt8)), e = .returned v ∧ ss.Perm (strKeys D0) ∧
      w'.ownsRow (w.alloc (.cells #[.map (some b)] 54)).heap.size 9 1 v ss.length ((ss.mergeSort (fun x y => decide (x ≤ y))).map encStr) ∧ (v = .slice none 0 0 ↔ ss = []) ∧ Below (w.alloc (.cells #[.map (some b)] 54)).heap.size (w.alloc (.cells #[.map (some b)] 54)) w' := by
  have hbl := hown.lt
  have hseq : SeqGives Fence.wide 2 Try.prog 41 #[.pointer (some ⟨w.heap.size, 0, none⟩)] encStr (fun ss => ss.Perm (strKeys D0)) (Maps.size D0) (w.alloc (.cells #[.map (some b)] 54)) :=
    AnyZ.keys_gives (ρ := keys27_ren) { keys27 with } Fence.wide _ trivial rfl (by omega) w.heap.size b nn D0 _ (by simp) (by simp) (by
      obtain ⟨es, clock, hb, Ft, hs, hD⟩ := hown
      exact ⟨es, clock, (Below.heap_alloc _ _ b hbl).trans hb, Ft, hs, hD⟩)
  exact AnyZ.sorted_in sorted26 Fence.wide 5 trivial trivial trivial trivial rfl (by omega) (sorts26 _) (enters_of Try.func40 (by kernel_rfl) rfl) 41 #[.pointer (some ⟨w.heap.size, 0, none⟩)] trivial (enters_of Try.func41 (by kernel_rfl) rfl) _ _ hmax hbytes _ hseq

set_option maxHeartbeats 1000000 in
/-- .. AND FOR THE nil MAP: nil. -/
theorem slices_Sorted_keys_nil_26_27 (w : World) :
    CallsIn Fence.wide 5 Try.prog 26 #[.func (.func 41) #[] #[.pointer (some ⟨w.heap.size, 0, none⟩)]] (w.alloc (.cells #[.map none] 54)) fun e w' => ∃ (v : Value) (ss : List (List UInt8)), e = .returned v ∧ ss = [] ∧
      w'.ownsRow (w.alloc (.cells #[.map none] 54)).heap.size 9 1 v ss.length ((ss.mergeSort (fun x y => decide (x ≤ y))).map encStr) ∧ (v = .slice none 0 0 ↔ ss = []) ∧ Below (w.alloc (.cells #[.map none] 54)).heap.size (w.alloc (.cells #[.map none] 54)) w' := by
  have hseq : SeqGives Fence.wide 2 Try.prog 41 #[.pointer (some ⟨w.heap.size, 0, none⟩)] encStr (fun ss : List (List UInt8) => ss = []) 0 (w.alloc (.cells #[.map none] 54)) :=
    AnyZ.keys_gives_nil (ρ := keys27_ren) { keys27 with } Fence.wide _ trivial rfl w.heap.size _ (by simp) (by simp)
  exact AnyZ.sorted_in sorted26 Fence.wide 5 trivial trivial trivial trivial rfl (by omega) (sorts26 _) (enters_of Try.func40 (by kernel_rfl) rfl) 41 #[.pointer (some ⟨w.heap.size, 0, none⟩)] trivial (enters_of Try.func41 (by kernel_rfl) rfl) _ 0 (Nat.zero_le _) (by omega) _ hseq


/-- slices.Sort's two contracts at this dump, at the fence that asks nothing. -/
theorem sorts33 (m : Nat) : AnyZI.SortsIn Try.prog sorted33_ren Fence.wide m :=
  ⟨fun blk off cap ss W hH hblk hsz => callsIn_wide.2 (AnyM.slices_Sort_int sort44 blk off cap ss W hH hblk hsz),
   fun p cap W => callsIn_wide.2 (AnyM.slices_Sort_int_none sort44 p cap W)⟩

/-- maps.Keys, at whatever map, the nil one too: a function value over ONE NEW BLOCK, which holds the map. -/
theorem maps_Keys_34 (mb : Option Nat) (W : World) : CallsIn Fence.wide 5 Try.prog 34 #[.map mb] W fun e w' => e = .returned (.func (.func 45) #[] #[.pointer (some ⟨W.heap.size, 0, none⟩)]) ∧ w' = W.alloc (.cells #[.map mb] 44) :=
  AnyZI.keys_in keys34 Fence.wide 5 trivial rfl mb W

set_option maxHeartbeats 1000000 in
/-- slices.Sorted AT WHAT maps.Keys HANDED BACK FOR A MAP THAT IS NOT nil ('w': the world AHEAD of maps.Keys' call): A NEW SLICE THAT HOLDS THE MAP's KEYS, SORTED; nil just where it has none; nothing that lay before has turned. -/
theorem slices_Sorted_keys_33_34 {H : Type} (b nn : Nat) (D0 : DataW H) (R : Value → Option (DataW H × List MemPlace)) (w : World) (hown : w.ownsMap Try.prog 3 R b nn D0) (hmax : Maps.size D0 ≤ maxLen) (hbytes : Maps.size D0 * 8 ≤ 140737488355328) :
    CallsIn Fence.wide 5 Try.prog 33 #[.func (.func 45) #[] #[.pointer (some ⟨w.heap.size, 0, none⟩)]] (w.alloc (.cells #[.map (some b)] 44)) fun e w' => ∃ (v : Value) (ss : List Int), e = .returned v ∧ ss.Perm (intKeys D0) ∧
      w'.ownsRow (w.alloc (.cells #[.map (some b)] 44)).heap.size 3 1 v ss.length ((ss.mergeSort (fun x y => decide (x ≤ y))).map encZ) ∧ (v = .slice none 0 0 ↔ ss = []) ∧ Below (w.alloc (.cells #[.map (some b)] 44)).heap.size (w.alloc (.cells #[.map (some b)] 44)) w' := by
  have hbl := hown.lt
  have hseq : SeqGives Fence.wide 2 Try.prog 45 #[.pointer (some ⟨w.heap.size, 0, none⟩)] encZ (fun ss => ss.Perm (intKeys D0)) (Maps.size D0) (w.alloc (.cells #[.map (some b)] 44)) :=
    AnyZI.keys_gives (ρ := keys34_ren) { keys34 with } Fence.wide _ trivial rfl (by omega) w.heap.size b nn D0 _ (by simp) (by simp) (by
      obtain ⟨es, clock, hb, Ft, hs, hD⟩ := hown
      exact ⟨es, clock, (Below.heap_alloc _ _ b hbl).trans hb, Ft, hs, hD⟩)
  exact AnyZI.sorted_in sorted33 Fence.wide 5 trivial trivial trivial trivial rfl (by omega) (sorts33 _) (enters_of Try.func44 (by kernel_rfl) rfl) 45 #[.pointer (some ⟨w.heap.size, 0, none⟩)] trivial (enters_of Try.func45 (by kernel_rfl) rfl) _ _ hmax hbytes _ hseq

set_option maxHeartbeats 1000000 in
/-- .. AND FOR THE nil MAP: nil. -/
theorem slices_Sorted_keys_nil_33_34 (w : World) :
    CallsIn Fence.wide 5 Try.prog 33 #[.func (.func 45) #[] #[.pointer (some ⟨w.heap.size, 0, none⟩)]] (w.alloc (.cells #[.map none] 44)) fun e w' => ∃ (v : Value) (ss : List Int), e = .returned v ∧ ss = [] ∧
      w'.ownsRow (w.alloc (.cells #[.map none] 44)).heap.size 3 1 v ss.length ((ss.mergeSort (fun x y => decide (x ≤ y))).map encZ) ∧ (v = .slice none 0 0 ↔ ss = []) ∧ Below (w.alloc (.cells #[.map none] 44)).heap.size (w.alloc (.cells #[.map none] 44)) w' := by
  have hseq : SeqGives Fence.wide 2 Try.prog 45 #[.pointer (some ⟨w.heap.size, 0, none⟩)] encZ (fun ss : List Int => ss = []) 0 (w.alloc (.cells #[.map none] 44)) :=
    AnyZI.keys_gives_nil (ρ := keys34_ren) { keys34 with } Fence.wide _ trivial rfl w.heap.size _ (by simp) (by simp)
  exact AnyZI.sorted_in sorted33 Fence.wide 5 trivial trivial trivial trivial rfl (by omega) (sorts33 _) (enters_of Try.func44 (by kernel_rfl) rfl) 45 #[.pointer (some ⟨w.heap.size, 0, none⟩)] trivial (enters_of Try.func45 (by kernel_rfl) rfl) _ 0 (Nat.zero_le _) (by omega) _ hseq


end Go.Proofs.Ythnicdafglohbaa.Sk
