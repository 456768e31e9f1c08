/-
  DERIVED: THE SHELF's CONTRACTS AT THIS DUMP, IN PLAIN WORDS (tools/lay-plain.mjs out of 'YtpipmkaljkhgiaaDoorIterS.lean', which tools/lay-shelf.mjs wrote): THE SAME DECLARATIONS UNDER THE SAME NAMES: 'import', 'namespace', 'open', 'def', 'theorem' AND NOTHING ELSE: no command of the shelf's: FOR A HAND-IN. Each laying: the table of numbers ('.._ren') and one theorem, a field a fact of the dump's own or the kernel's comparison; each contract: ONE APPLICATION.
-/
import Derived.Shelf.SlIter.Nil
import Derived.Shelf.SortM.Plain
import Derived.Shelf.SortM.SortNone
import Derived.Ground.GgzProg
import Derived.Ground.SlgmProg
import Derived.Test.YtpipmkaljkhgiaaDoorProg
namespace Go.Proofs
open Go.Shelf
def Tryd.keys46_ren : Go.Shelf.Ren := ⟨fun | 7 => 46 | 10 => 57 | n => n, fun | 23 => 56 | 26 => 9 | 3 => 60 | 28 => 71 | 0 => 0 | 27 => 70 | 33 => 53 | 4 => 4 | n => n, fun | n => n⟩
theorem Tryd.keys46 : Go.Proofs.SlLaysZ.n7 Tryd.prog Tryd.keys46_ren := {
  mixed := by kernel_rfl
  f7 := ⟨Tryd.f46.name, by decide, Tryd.func46.trans (congrArg some (by kernel_rfl))⟩
  f10 := ⟨Tryd.f57.name, by decide, Tryd.func57.trans (congrArg some (by kernel_rfl))⟩
  t0 := Tryd.underlying0
  a0 := Tryd.isAgg0
  z0 := Tryd.sizeOf0
  v0 := Tryd.zeroValue0
  t4 := Tryd.underlying4
  a4 := Tryd.isAgg4
  z4 := Tryd.sizeOf4
  v4 := Tryd.zeroValue4
  t23 := Tryd.underlying56
  a23 := Tryd.isAgg56
  z23 := Tryd.sizeOf56
  v23 := Tryd.zeroValue56
  t26 := Tryd.underlying9
  a26 := Tryd.isAgg9
  z26 := Tryd.sizeOf9
  v26 := Tryd.zeroValue9
  t27 := Tryd.underlying70
  a27 := Tryd.isAgg70
  z27 := Tryd.sizeOf70
  v27 := Tryd.zeroValue70
  t28 := Tryd.underlying71
  a28 := Tryd.isAgg71
  z28 := Tryd.sizeOf71
  v28 := Tryd.zeroValue71
  t33 := Tryd.underlying53
  a33 := Tryd.isAgg53
  z33 := Tryd.sizeOf53
  v33 := Tryd.zeroValue53 }
def Tryd.sorted45_ren : Go.Shelf.Ren := ⟨fun | 6 => 45 | 8 => 55 | 9 => 56 | 11 => 65 | 13 => 67 | 12 => 66 | 23 => 81 | 24 => 82 | 14 => 72 | 15 => 73 | 16 => 74 | 17 => 75 | 18 => 76 | 19 => 77 | 20 => 78 | 21 => 79 | 22 => 80 | 25 => 86 | 26 => 87 | 27 => 88 | 28 => 89 | 29 => 90 | 30 => 91 | 31 => 96 | n => n, fun | 26 => 9 | 28 => 71 | 24 => 50 | 0 => 0 | 3 => 3 | 37 => 93 | 48 => 108 | 50 => 110 | 4 => 4 | 40 => 100 | 39 => 99 | 45 => 105 | 5 => 5 | 9 => 9 | 51 => 112 | 55 => 116 | 57 => 126 | 58 => 127 | 33 => 53 | n => n, fun | n => n⟩
theorem Tryd.sorted45 : Go.Proofs.SlLaysZ.n6 Tryd.prog Tryd.sorted45_ren := {
  mixed := by kernel_rfl
  f6 := ⟨Tryd.f45.name, by decide, Tryd.func45.trans (congrArg some (by kernel_rfl))⟩
  f8 := ⟨Tryd.f55.name, by decide, Tryd.func55.trans (congrArg some (by kernel_rfl))⟩
  f11 := ⟨Tryd.f65.name, by decide, Tryd.func65.trans (congrArg some (by kernel_rfl))⟩
  t0 := Tryd.underlying0
  a0 := Tryd.isAgg0
  z0 := Tryd.sizeOf0
  v0 := Tryd.zeroValue0
  t24 := Tryd.underlying50
  a24 := Tryd.isAgg50
  z24 := Tryd.sizeOf50
  v24 := Tryd.zeroValue50
  t26 := Tryd.underlying9
  a26 := Tryd.isAgg9
  z26 := Tryd.sizeOf9
  v26 := Tryd.zeroValue9
  t28 := Tryd.underlying71
  a28 := Tryd.isAgg71
  z28 := Tryd.sizeOf71
  v28 := Tryd.zeroValue71
  i26 := by kernel_rfl }
def Tryd.sort56_ren : Go.Shelf.Ren := ⟨fun | 6 => 56 | 8 => 67 | 9 => 66 | 19 => 81 | 20 => 82 | 21 => 72 | 22 => 73 | 23 => 74 | 24 => 75 | 25 => 76 | 26 => 77 | 27 => 78 | 28 => 79 | 29 => 80 | 36 => 86 | 31 => 87 | 32 => 88 | 37 => 89 | 38 => 90 | 39 => 91 | 41 => 96 | n => n, fun | 27 => 50 | 29 => 9 | 3 => 3 | 32 => 93 | 26 => 50 | 0 => 0 | 44 => 108 | 46 => 110 | 4 => 4 | 36 => 100 | 35 => 99 | 41 => 105 | 5 => 5 | 9 => 9 | 53 => 112 | 57 => 116 | 63 => 126 | 64 => 127 | n => n, fun | n => n⟩
theorem Tryd.sort56 : Go.Proofs.SlLaysM.n6 Tryd.prog Tryd.sort56_ren := {
  mixed := by kernel_rfl
  f6 := ⟨Tryd.f56.name, by decide, Tryd.func56.trans (congrArg some (by kernel_rfl))⟩
  f8 := Tryd.func67.trans (congrArg some (by kernel_rfl))
  f9 := ⟨Tryd.f66.name, by decide, Tryd.func66.trans (congrArg some (by kernel_rfl))⟩
  f19 := Tryd.func81.trans (congrArg some (by kernel_rfl))
  f20 := Tryd.func82.trans (congrArg some (by kernel_rfl))
  f21 := ⟨Tryd.f72.name, by decide, Tryd.func72.trans (congrArg some (by kernel_rfl))⟩
  f22 := ⟨Tryd.f73.name, by decide, Tryd.func73.trans (congrArg some (by kernel_rfl))⟩
  f23 := ⟨Tryd.f74.name, by decide, Tryd.func74.trans (congrArg some (by kernel_rfl))⟩
  f24 := ⟨Tryd.f75.name, by decide, Tryd.func75.trans (congrArg some (by kernel_rfl))⟩
  f25 := ⟨Tryd.f76.name, by decide, Tryd.func76.trans (congrArg some (by kernel_rfl))⟩
  f26 := ⟨Tryd.f77.name, by decide, Tryd.func77.trans (congrArg some (by kernel_rfl))⟩
  f27 := ⟨Tryd.f78.name, by decide, Tryd.func78.trans (congrArg some (by kernel_rfl))⟩
  f28 := ⟨Tryd.f79.name, by decide, Tryd.func79.trans (congrArg some (by kernel_rfl))⟩
  f29 := ⟨Tryd.f80.name, by decide, Tryd.func80.trans (congrArg some (by kernel_rfl))⟩
  f31 := Tryd.func87.trans (congrArg some (by kernel_rfl))
  f32 := Tryd.func88.trans (congrArg some (by kernel_rfl))
  f36 := ⟨Tryd.f86.name, by decide, Tryd.func86.trans (congrArg some (by kernel_rfl))⟩
  f37 := ⟨Tryd.f89.name, by decide, Tryd.func89.trans (congrArg some (by kernel_rfl))⟩
  f38 := ⟨Tryd.f90.name, by decide, Tryd.func90.trans (congrArg some (by kernel_rfl))⟩
  f39 := ⟨Tryd.f91.name, by decide, Tryd.func91.trans (congrArg some (by kernel_rfl))⟩
  f41 := ⟨Tryd.f96.name, by decide, Tryd.func96.trans (congrArg some (by kernel_rfl))⟩
  t0 := Tryd.underlying0
  a0 := Tryd.isAgg0
  z0 := Tryd.sizeOf0
  v0 := Tryd.zeroValue0
  t3 := Tryd.underlying3
  a3 := Tryd.isAgg3
  z3 := Tryd.sizeOf3
  v3 := Tryd.zeroValue3
  t4 := Tryd.underlying4
  a4 := Tryd.isAgg4
  z4 := Tryd.sizeOf4
  v4 := Tryd.zeroValue4
  t5 := Tryd.underlying5
  a5 := Tryd.isAgg5
  z5 := Tryd.sizeOf5
  v5 := Tryd.zeroValue5
  t9 := Tryd.underlying9
  a9 := Tryd.isAgg9
  z9 := Tryd.sizeOf9
  v9 := Tryd.zeroValue9
  t26 := Tryd.underlying50
  a26 := Tryd.isAgg50
  z26 := Tryd.sizeOf50
  v26 := Tryd.zeroValue50
  t27 := Tryd.underlying50
  a27 := Tryd.isAgg50
  z27 := Tryd.sizeOf50
  v27 := Tryd.zeroValue50
  t29 := Tryd.underlying9
  a29 := Tryd.isAgg9
  z29 := Tryd.sizeOf9
  v29 := Tryd.zeroValue9
  t32 := Tryd.underlying93
  a32 := Tryd.isAgg93
  z32 := Tryd.sizeOf93
  v32 := Tryd.zeroValue93
  t35 := Tryd.underlying99
  a35 := Tryd.isAgg99
  z35 := Tryd.sizeOf99
  v35 := Tryd.zeroValue99
  t36 := Tryd.underlying100
  a36 := Tryd.isAgg100
  z36 := Tryd.sizeOf100
  v36 := Tryd.zeroValue100
  t41 := Tryd.underlying105
  a41 := Tryd.isAgg105
  z41 := Tryd.sizeOf105
  v41 := Tryd.zeroValue105
  t44 := Tryd.underlying108
  a44 := Tryd.isAgg108
  z44 := Tryd.sizeOf108
  v44 := Tryd.zeroValue108
  t46 := Tryd.underlying110
  a46 := Tryd.isAgg110
  z46 := Tryd.sizeOf110
  v46 := Tryd.zeroValue110
  t53 := Tryd.underlying112
  a53 := Tryd.isAgg112
  z53 := Tryd.sizeOf112
  v53 := Tryd.zeroValue112
  t57 := Tryd.underlying116
  a57 := Tryd.isAgg116
  z57 := Tryd.sizeOf116
  v57 := Tryd.zeroValue116
  t63 := Tryd.underlying126
  a63 := Tryd.isAgg126
  z63 := Tryd.sizeOf126
  v63 := Tryd.zeroValue126
  t64 := Tryd.underlying127
  a64 := Tryd.isAgg127
  z64 := Tryd.sizeOf127
  v64 := Tryd.zeroValue127 }
open Go.RowKit Go.Maps Go.Sort Go.Shelf

/-- slices.Sort's two contracts at this dump, at the fence that asks nothing. -/
theorem Tryd.sorts45 (m : Nat) : AnyZ.SortsIn Tryd.prog Tryd.sorted45_ren Fence.wide m :=
  ⟨fun blk off cap ss W hH hblk hsz => callsIn_wide.2 (AnyM.slices_Sort_string Tryd.sort56 blk off cap ss W hH hblk hsz),
   fun p cap W => callsIn_wide.2 (AnyM.slices_Sort_string_none Tryd.sort56 p cap W)⟩

/-- **maps.Keys[map[string]registrar/disk.file,string,registrar/disk.file], at whatever map, the nil one too:** a function value over ONE NEW BLOCK, which holds the map. -/
theorem Tryd.maps_Keys_46 (mb : Option Nat) (W : World) : CallsIn Fence.wide 5 Tryd.prog 46 #[.map mb] W fun e w' => e = .returned (.func (.func 57) #[] #[.pointer (some ⟨W.heap.size, 0, none⟩)]) ∧ w' = W.alloc (.cells #[.map mb] 56) :=
  AnyZ.keys_in Tryd.keys46 Fence.wide 5 trivial rfl mb W

set_option maxHeartbeats 1000000 in
/-- **slices.Sorted[string] AT WHAT maps.Keys[map[string]registrar/disk.file,string,registrar/disk.file] HANDED BACK FOR A MAP THAT IS NOT nil** ('w': the world AHEAD of maps.Keys' call): A NEW SLICE THAT HOLDS THE MAP's KEYS, SORTED; nil just where it has none; nothing that lay before has turned. -/
theorem Tryd.slices_Sorted_keys_45_46 {H : Type} (b nn : Nat) (D0 : DataW H) (R : Value → Option (DataW H × List MemPlace)) (w : World) (hown : w.ownsMap Tryd.prog 9 R b nn D0) (hmax : Maps.size D0 ≤ maxLen) (hbytes : Maps.size D0 * 16 ≤ 140737488355328) :
    CallsIn Fence.wide 5 Tryd.prog 45 #[.func (.func 57) #[] #[.pointer (some ⟨w.heap.size, 0, none⟩)]] (w.alloc (.cells #[.map (some b)] 56)) fun e w' => ∃ (v : Value) (ss : List (List UInt8)), e = .returned v ∧ ss.Perm (strKeys D0) ∧
      w'.ownsRow (w.alloc (.cells #[.map (some b)] 56)).heap.size 9 1 v ss.length ((ss.mergeSort (fun x y => decide (x ≤ y))).map encStr) ∧ (v = .slice none 0 0 ↔ ss = []) ∧ Below (w.alloc (.cells #[.map (some b)] 56)).heap.size (w.alloc (.cells #[.map (some b)] 56)) w' := by
  have hbl := hown.lt
  have hseq : SeqGives Fence.wide 2 Tryd.prog 57 #[.pointer (some ⟨w.heap.size, 0, none⟩)] encStr (fun ss => ss.Perm (strKeys D0)) (Maps.size D0) (w.alloc (.cells #[.map (some b)] 56)) :=
    AnyZ.keys_gives (ρ := Tryd.keys46_ren) { Tryd.keys46 with } Fence.wide _ trivial rfl (by omega) w.heap.size b nn D0 _ (by simp) (by simp) (by
      obtain ⟨es, clock, hb, Ft, hs, hD⟩ := hown
      exact ⟨es, clock, (Below.heap_alloc _ _ b hbl).trans hb, Ft, hs, hD⟩)
  exact AnyZ.sorted_in Tryd.sorted45 Fence.wide 5 trivial trivial trivial trivial rfl (by omega) (Tryd.sorts45 _) (enters_of Tryd.func56 (by kernel_rfl) rfl) 57 #[.pointer (some ⟨w.heap.size, 0, none⟩)] trivial (enters_of Tryd.func57 (by kernel_rfl) rfl) _ _ hmax hbytes _ hseq

set_option maxHeartbeats 1000000 in
/-- **.. AND FOR THE nil MAP: nil.** -/
theorem Tryd.slices_Sorted_keys_nil_45_46 (w : World) :
    CallsIn Fence.wide 5 Tryd.prog 45 #[.func (.func 57) #[] #[.pointer (some ⟨w.heap.size, 0, none⟩)]] (w.alloc (.cells #[.map none] 56)) fun e w' => ∃ (v : Value) (ss : List (List UInt8)), e = .returned v ∧ ss = [] ∧
      w'.ownsRow (w.alloc (.cells #[.map none] 56)).heap.size 9 1 v ss.length ((ss.mergeSort (fun x y => decide (x ≤ y))).map encStr) ∧ (v = .slice none 0 0 ↔ ss = []) ∧ Below (w.alloc (.cells #[.map none] 56)).heap.size (w.alloc (.cells #[.map none] 56)) w' := by
  have hseq : SeqGives Fence.wide 2 Tryd.prog 57 #[.pointer (some ⟨w.heap.size, 0, none⟩)] encStr (fun ss : List (List UInt8) => ss = []) 0 (w.alloc (.cells #[.map none] 56)) :=
    AnyZ.keys_gives_nil (ρ := Tryd.keys46_ren) { Tryd.keys46 with } Fence.wide _ trivial rfl w.heap.size _ (by simp) (by simp)
  exact AnyZ.sorted_in Tryd.sorted45 Fence.wide 5 trivial trivial trivial trivial rfl (by omega) (Tryd.sorts45 _) (enters_of Tryd.func56 (by kernel_rfl) rfl) 57 #[.pointer (some ⟨w.heap.size, 0, none⟩)] trivial (enters_of Tryd.func57 (by kernel_rfl) rfl) _ 0 (Nat.zero_le _) (by omega) _ hseq

end Go.Proofs
