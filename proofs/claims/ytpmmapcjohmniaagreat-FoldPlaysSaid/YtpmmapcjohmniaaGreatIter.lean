/-
  DERIVED: THE SHELF's CONTRACTS AT THIS DUMP, IN PLAIN WORDS (tools/lay-plain.mjs out of 'YtpmmapcjohmniaaGreatIterS.lean', which tools/lay-shelf.mjs wrote): THE SAME DECLARATIONS UNDER THE SAME NAMES: 'import', 'namespace', 'open', 'def', 'theorem' AND NOTHING ELSE: no command of the shelf's: FOR A HAND-IN. Each laying: the table of numbers ('.._ren') and one theorem, a field a fact of the dump's own or the kernel's comparison; each contract: ONE APPLICATION.
-/
import Derived.Shelf.SlIter.Nil
import Derived.Shelf.SortM.Plain
import Derived.Shelf.SortM.SortNone
import Derived.Ground.GgzProg
import Derived.Ground.SlgmProg
import Derived.Test.YtpmmapcjohmniaaGreatProg
namespace Go.Proofs
open Go.Shelf
def Tryz.keys32_ren : Go.Shelf.Ren := ⟨fun | 7 => 32 | 10 => 50 | n => n, fun | 23 => 63 | 26 => 9 | 3 => 3 | 28 => 77 | 0 => 0 | 27 => 76 | 33 => 82 | 4 => 4 | n => n, fun | n => n⟩
theorem Tryz.keys32 : Go.Proofs.SlLaysZ.n7 Tryz.prog Tryz.keys32_ren := {
  mixed := by kernel_rfl
  f7 := ⟨Tryz.f32.name, by decide, Tryz.func32.trans (congrArg some (by kernel_rfl))⟩
  f10 := ⟨Tryz.f50.name, by decide, Tryz.func50.trans (congrArg some (by kernel_rfl))⟩
  t0 := Tryz.underlying0
  a0 := Tryz.isAgg0
  z0 := Tryz.sizeOf0
  v0 := Tryz.zeroValue0
  t4 := Tryz.underlying4
  a4 := Tryz.isAgg4
  z4 := Tryz.sizeOf4
  v4 := Tryz.zeroValue4
  t23 := Tryz.underlying63
  a23 := Tryz.isAgg63
  z23 := Tryz.sizeOf63
  v23 := Tryz.zeroValue63
  t26 := Tryz.underlying9
  a26 := Tryz.isAgg9
  z26 := Tryz.sizeOf9
  v26 := Tryz.zeroValue9
  t27 := Tryz.underlying76
  a27 := Tryz.isAgg76
  z27 := Tryz.sizeOf76
  v27 := Tryz.zeroValue76
  t28 := Tryz.underlying77
  a28 := Tryz.isAgg77
  z28 := Tryz.sizeOf77
  v28 := Tryz.zeroValue77
  t33 := Tryz.underlying82
  a33 := Tryz.isAgg82
  z33 := Tryz.sizeOf82
  v33 := Tryz.zeroValue82 }
def Tryz.sorted31_ren : Go.Shelf.Ren := ⟨fun | 6 => 31 | 8 => 48 | 9 => 49 | 11 => 67 | 13 => 69 | 12 => 68 | 23 => 87 | 24 => 88 | 14 => 78 | 15 => 79 | 16 => 80 | 17 => 81 | 18 => 82 | 19 => 83 | 20 => 84 | 21 => 85 | 22 => 86 | 25 => 90 | 26 => 91 | 27 => 92 | 28 => 93 | 29 => 94 | 30 => 95 | 31 => 97 | n => n, fun | 26 => 9 | 28 => 77 | 24 => 42 | 0 => 0 | 3 => 3 | 37 => 113 | 48 => 127 | 50 => 129 | 4 => 4 | 40 => 120 | 39 => 119 | 45 => 71 | 5 => 5 | 9 => 9 | 51 => 131 | 55 => 135 | 57 => 137 | 58 => 138 | 33 => 82 | n => n, fun | n => n⟩
theorem Tryz.sorted31 : Go.Proofs.SlLaysZ.n6 Tryz.prog Tryz.sorted31_ren := {
  mixed := by kernel_rfl
  f6 := ⟨Tryz.f31.name, by decide, Tryz.func31.trans (congrArg some (by kernel_rfl))⟩
  f8 := ⟨Tryz.f48.name, by decide, Tryz.func48.trans (congrArg some (by kernel_rfl))⟩
  f11 := ⟨Tryz.f67.name, by decide, Tryz.func67.trans (congrArg some (by kernel_rfl))⟩
  t0 := Tryz.underlying0
  a0 := Tryz.isAgg0
  z0 := Tryz.sizeOf0
  v0 := Tryz.zeroValue0
  t24 := Tryz.underlying42
  a24 := Tryz.isAgg42
  z24 := Tryz.sizeOf42
  v24 := Tryz.zeroValue42
  t26 := Tryz.underlying9
  a26 := Tryz.isAgg9
  z26 := Tryz.sizeOf9
  v26 := Tryz.zeroValue9
  t28 := Tryz.underlying77
  a28 := Tryz.isAgg77
  z28 := Tryz.sizeOf77
  v28 := Tryz.zeroValue77
  i26 := by kernel_rfl }
def Tryz.sort49_ren : Go.Shelf.Ren := ⟨fun | 6 => 49 | 8 => 69 | 9 => 68 | 19 => 87 | 20 => 88 | 21 => 78 | 22 => 79 | 23 => 80 | 24 => 81 | 25 => 82 | 26 => 83 | 27 => 84 | 28 => 85 | 29 => 86 | 36 => 90 | 31 => 91 | 32 => 92 | 37 => 93 | 38 => 94 | 39 => 95 | 41 => 97 | n => n, fun | 27 => 42 | 29 => 9 | 3 => 3 | 32 => 113 | 26 => 42 | 0 => 0 | 44 => 127 | 46 => 129 | 4 => 4 | 36 => 120 | 35 => 119 | 41 => 71 | 5 => 5 | 9 => 9 | 53 => 131 | 57 => 135 | 63 => 137 | 64 => 138 | n => n, fun | n => n⟩
theorem Tryz.sort49 : Go.Proofs.SlLaysM.n6 Tryz.prog Tryz.sort49_ren := {
  mixed := by kernel_rfl
  f6 := ⟨Tryz.f49.name, by decide, Tryz.func49.trans (congrArg some (by kernel_rfl))⟩
  f8 := Tryz.func69.trans (congrArg some (by kernel_rfl))
  f9 := ⟨Tryz.f68.name, by decide, Tryz.func68.trans (congrArg some (by kernel_rfl))⟩
  f19 := Tryz.func87.trans (congrArg some (by kernel_rfl))
  f20 := Tryz.func88.trans (congrArg some (by kernel_rfl))
  f21 := ⟨Tryz.f78.name, by decide, Tryz.func78.trans (congrArg some (by kernel_rfl))⟩
  f22 := ⟨Tryz.f79.name, by decide, Tryz.func79.trans (congrArg some (by kernel_rfl))⟩
  f23 := ⟨Tryz.f80.name, by decide, Tryz.func80.trans (congrArg some (by kernel_rfl))⟩
  f24 := ⟨Tryz.f81.name, by decide, Tryz.func81.trans (congrArg some (by kernel_rfl))⟩
  f25 := ⟨Tryz.f82.name, by decide, Tryz.func82.trans (congrArg some (by kernel_rfl))⟩
  f26 := ⟨Tryz.f83.name, by decide, Tryz.func83.trans (congrArg some (by kernel_rfl))⟩
  f27 := ⟨Tryz.f84.name, by decide, Tryz.func84.trans (congrArg some (by kernel_rfl))⟩
  f28 := ⟨Tryz.f85.name, by decide, Tryz.func85.trans (congrArg some (by kernel_rfl))⟩
  f29 := ⟨Tryz.f86.name, by decide, Tryz.func86.trans (congrArg some (by kernel_rfl))⟩
  f31 := Tryz.func91.trans (congrArg some (by kernel_rfl))
  f32 := Tryz.func92.trans (congrArg some (by kernel_rfl))
  f36 := ⟨Tryz.f90.name, by decide, Tryz.func90.trans (congrArg some (by kernel_rfl))⟩
  f37 := ⟨Tryz.f93.name, by decide, Tryz.func93.trans (congrArg some (by kernel_rfl))⟩
  f38 := ⟨Tryz.f94.name, by decide, Tryz.func94.trans (congrArg some (by kernel_rfl))⟩
  f39 := ⟨Tryz.f95.name, by decide, Tryz.func95.trans (congrArg some (by kernel_rfl))⟩
  f41 := ⟨Tryz.f97.name, by decide, Tryz.func97.trans (congrArg some (by kernel_rfl))⟩
  t0 := Tryz.underlying0
  a0 := Tryz.isAgg0
  z0 := Tryz.sizeOf0
  v0 := Tryz.zeroValue0
  t3 := Tryz.underlying3
  a3 := Tryz.isAgg3
  z3 := Tryz.sizeOf3
  v3 := Tryz.zeroValue3
  t4 := Tryz.underlying4
  a4 := Tryz.isAgg4
  z4 := Tryz.sizeOf4
  v4 := Tryz.zeroValue4
  t5 := Tryz.underlying5
  a5 := Tryz.isAgg5
  z5 := Tryz.sizeOf5
  v5 := Tryz.zeroValue5
  t9 := Tryz.underlying9
  a9 := Tryz.isAgg9
  z9 := Tryz.sizeOf9
  v9 := Tryz.zeroValue9
  t26 := Tryz.underlying42
  a26 := Tryz.isAgg42
  z26 := Tryz.sizeOf42
  v26 := Tryz.zeroValue42
  t27 := Tryz.underlying42
  a27 := Tryz.isAgg42
  z27 := Tryz.sizeOf42
  v27 := Tryz.zeroValue42
  t29 := Tryz.underlying9
  a29 := Tryz.isAgg9
  z29 := Tryz.sizeOf9
  v29 := Tryz.zeroValue9
  t32 := Tryz.underlying113
  a32 := Tryz.isAgg113
  z32 := Tryz.sizeOf113
  v32 := Tryz.zeroValue113
  t35 := Tryz.underlying119
  a35 := Tryz.isAgg119
  z35 := Tryz.sizeOf119
  v35 := Tryz.zeroValue119
  t36 := Tryz.underlying120
  a36 := Tryz.isAgg120
  z36 := Tryz.sizeOf120
  v36 := Tryz.zeroValue120
  t41 := Tryz.underlying71
  a41 := Tryz.isAgg71
  z41 := Tryz.sizeOf71
  v41 := Tryz.zeroValue71
  t44 := Tryz.underlying127
  a44 := Tryz.isAgg127
  z44 := Tryz.sizeOf127
  v44 := Tryz.zeroValue127
  t46 := Tryz.underlying129
  a46 := Tryz.isAgg129
  z46 := Tryz.sizeOf129
  v46 := Tryz.zeroValue129
  t53 := Tryz.underlying131
  a53 := Tryz.isAgg131
  z53 := Tryz.sizeOf131
  v53 := Tryz.zeroValue131
  t57 := Tryz.underlying135
  a57 := Tryz.isAgg135
  z57 := Tryz.sizeOf135
  v57 := Tryz.zeroValue135
  t63 := Tryz.underlying137
  a63 := Tryz.isAgg137
  z63 := Tryz.sizeOf137
  v63 := Tryz.zeroValue137
  t64 := Tryz.underlying138
  a64 := Tryz.isAgg138
  z64 := Tryz.sizeOf138
  v64 := Tryz.zeroValue138 }
open Go.RowKit Go.Maps Go.Sort Go.Shelf

/-- slices.Sort's two contracts at this dump, at the fence that asks nothing. -/
theorem Tryz.sorts31 (m : Nat) : AnyZ.SortsIn Tryz.prog Tryz.sorted31_ren Fence.wide m :=
  ⟨fun blk off cap ss W hH hblk hsz => callsIn_wide.2 (AnyM.slices_Sort_string Tryz.sort49 blk off cap ss W hH hblk hsz),
   fun p cap W => callsIn_wide.2 (AnyM.slices_Sort_string_none Tryz.sort49 p cap W)⟩

/-- **maps.Keys[map[string]int,string,int], at whatever map, the nil one too:** a function value over ONE NEW BLOCK, which holds the map. -/
theorem Tryz.maps_Keys_32 (mb : Option Nat) (W : World) : CallsIn Fence.wide 5 Tryz.prog 32 #[.map mb] W fun e w' => e = .returned (.func (.func 50) #[] #[.pointer (some ⟨W.heap.size, 0, none⟩)]) ∧ w' = W.alloc (.cells #[.map mb] 63) :=
  AnyZ.keys_in Tryz.keys32 Fence.wide 5 trivial rfl mb W

set_option maxHeartbeats 1000000 in
/-- **slices.Sorted[string] AT WHAT maps.Keys[map[string]int,string,int] HANDED BACK FOR A MAP THAT IS NOT nil** ('w': the world AHEAD of maps.Keys' call): A NEW SLICE THAT HOLDS THE MAP's KEYS, SORTED; nil just where it has none; nothing that lay before has turned. -/
theorem Tryz.slices_Sorted_keys_31_32 {H : Type} (b nn : Nat) (D0 : DataW H) (R : Value → Option (DataW H × List MemPlace)) (w : World) (hown : w.ownsMap Tryz.prog 9 R b nn D0) (hmax : Maps.size D0 ≤ maxLen) (hbytes : Maps.size D0 * 16 ≤ 140737488355328) :
    CallsIn Fence.wide 5 Tryz.prog 31 #[.func (.func 50) #[] #[.pointer (some ⟨w.heap.size, 0, none⟩)]] (w.alloc (.cells #[.map (some b)] 63)) fun e w' => ∃ (v : Value) (ss : List (List UInt8)), e = .returned v ∧ ss.Perm (strKeys D0) ∧
      w'.ownsRow (w.alloc (.cells #[.map (some b)] 63)).heap.size 9 1 v ss.length ((ss.mergeSort (fun x y => decide (x ≤ y))).map encStr) ∧ (v = .slice none 0 0 ↔ ss = []) ∧ Below (w.alloc (.cells #[.map (some b)] 63)).heap.size (w.alloc (.cells #[.map (some b)] 63)) w' := by
  have hbl := hown.lt
  have hseq : SeqGives Fence.wide 2 Tryz.prog 50 #[.pointer (some ⟨w.heap.size, 0, none⟩)] encStr (fun ss => ss.Perm (strKeys D0)) (Maps.size D0) (w.alloc (.cells #[.map (some b)] 63)) :=
    AnyZ.keys_gives (ρ := Tryz.keys32_ren) { Tryz.keys32 with } Fence.wide _ trivial rfl (by omega) w.heap.size b nn D0 _ (by simp) (by simp) (by
      obtain ⟨es, clock, hb, Ft, hs, hD⟩ := hown
      exact ⟨es, clock, (Below.heap_alloc _ _ b hbl).trans hb, Ft, hs, hD⟩)
  exact AnyZ.sorted_in Tryz.sorted31 Fence.wide 5 trivial trivial trivial trivial rfl (by omega) (Tryz.sorts31 _) (enters_of Tryz.func49 (by kernel_rfl) rfl) 50 #[.pointer (some ⟨w.heap.size, 0, none⟩)] trivial (enters_of Tryz.func50 (by kernel_rfl) rfl) _ _ hmax hbytes _ hseq

set_option maxHeartbeats 1000000 in
/-- **.. AND FOR THE nil MAP: nil.** -/
theorem Tryz.slices_Sorted_keys_nil_31_32 (w : World) :
    CallsIn Fence.wide 5 Tryz.prog 31 #[.func (.func 50) #[] #[.pointer (some ⟨w.heap.size, 0, none⟩)]] (w.alloc (.cells #[.map none] 63)) fun e w' => ∃ (v : Value) (ss : List (List UInt8)), e = .returned v ∧ ss = [] ∧
      w'.ownsRow (w.alloc (.cells #[.map none] 63)).heap.size 9 1 v ss.length ((ss.mergeSort (fun x y => decide (x ≤ y))).map encStr) ∧ (v = .slice none 0 0 ↔ ss = []) ∧ Below (w.alloc (.cells #[.map none] 63)).heap.size (w.alloc (.cells #[.map none] 63)) w' := by
  have hseq : SeqGives Fence.wide 2 Tryz.prog 50 #[.pointer (some ⟨w.heap.size, 0, none⟩)] encStr (fun ss : List (List UInt8) => ss = []) 0 (w.alloc (.cells #[.map none] 63)) :=
    AnyZ.keys_gives_nil (ρ := Tryz.keys32_ren) { Tryz.keys32 with } Fence.wide _ trivial rfl w.heap.size _ (by simp) (by simp)
  exact AnyZ.sorted_in Tryz.sorted31 Fence.wide 5 trivial trivial trivial trivial rfl (by omega) (Tryz.sorts31 _) (enters_of Tryz.func49 (by kernel_rfl) rfl) 50 #[.pointer (some ⟨w.heap.size, 0, none⟩)] trivial (enters_of Tryz.func50 (by kernel_rfl) rfl) _ 0 (Nat.zero_le _) (by omega) _ hseq

end Go.Proofs
