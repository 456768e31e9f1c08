/- The walks of frame.low, frame.Put, bytes.Clone and of the reference's four and Put (chapter 9). -/
import Derived.Test.YtjfggfmhchoobaaCrcOpen
import Derived.Test.YtjfggfmhchoobaaFrameMath
import Derived.Test.YtjfggfmhchoobaaRep
namespace Go.Proofs.Ytjfggfmhchoobaa
open Go Go.RowKit
set_option linter.unusedSimpArgs false
set_option linter.unusedVariables false

/-- Four bytes of a word, the first k of them laid. -/
def lowC (v : BitVec 32) : Nat → Array Value
  | 0 => #[.int .u8 0, .int .u8 0, .int .u8 0, .int .u8 0]
  | 1 => #[bv (byteOf v 0), .int .u8 0, .int .u8 0, .int .u8 0]
  | 2 => #[bv (byteOf v 0), bv (byteOf v 1), .int .u8 0, .int .u8 0]
  | 3 => #[bv (byteOf v 0), bv (byteOf v 1), bv (byteOf v 2), .int .u8 0]
  | _ => #[bv (byteOf v 0), bv (byteOf v 1), bv (byteOf v 2), bv (byteOf v 3)]
theorem byteOf_int (v : BitVec 32) : ((byteOf v 0).toNat : Int) = (v.toNat : Int) % 256 ∧ ((byteOf v 1).toNat : Int) = (v.toNat : Int) / 256 % 256 ∧ ((byteOf v 2).toNat : Int) = (v.toNat : Int) / 65536 % 256 ∧ ((byteOf v 3).toNat : Int) = (v.toNat : Int) / 16777216 % 256 := by
  have h3 := byteOf3 v
  have h2 : (byteOf v 2).toNat = v.toNat / 65536 % 256 := by unfold byteOf; rw [UInt8.toNat_ofNat']
  have h1 : (byteOf v 1).toNat = v.toNat / 256 % 256 := by unfold byteOf; rw [UInt8.toNat_ofNat']
  have h0 : (byteOf v 0).toNat = v.toNat % 256 := by unfold byteOf; rw [UInt8.toNat_ofNat']; simp
  omega

/-- A call hands back four bytes of its own, no room behind them. -/
def RetFour (w : World) (v : BitVec 32) (e : Ending) (w' : World) : Prop := ∃ g, e = .returned (.slice (some ⟨g, 0, none⟩) 4 4) ∧ OB w' w.heap.size (.slice (some ⟨g, 0, none⟩) 4 4) (Crc.le4 v) ∧ Below w.heap.size w w'
theorem OB_four (w : World) (v : BitVec 32) (C : Array Value) (hC : C.toList = bvs (Crc.le4 v)) : OB (w.alloc (.cells C 5)) w.heap.size (.slice (some ⟨w.heap.size, 0, none⟩) 4 4) (Crc.le4 v) := by
  have hl := Crc.le4_length v
  refine ⟨by rw [bvs_length, Nat.mul_one], .inr ⟨w.heap.size, 4, C, by rw [hl], Nat.le_refl _, heap_alloc_last w _, by rw [hl]; omega, by simp [maxLen], ?_, ?_⟩⟩
  · have := congrArg List.length hC
    rw [bvs_length, hl] at this
    simpa using this
  · rw [hC, hl, List.take_of_length_le (by rw [bvs_length, hl]; omega)]

set_option maxRecDepth 100000 in
set_option maxHeartbeats 1000000 in
theorem low_calls (v : BitVec 32) (w : World) :
    Calls Try.prog 35 #[.int .u32 (v.toNat : Int)] w (RetFour w v) := by
  obtain ⟨b0, b1, b2, b3⟩ := byteOf_int v
  have hv := v.isLt
  have B0 := hid b0; have B1 := hid b1; have B2 := hid b2; have B3 := hid b3; have HV := hid hv
  clear b0 b1 b2 b3 hv
  obtain ⟨x, hx⟩ : ∃ x, x = v.toNat := ⟨_, rfl⟩
  rw [← hx]
  have Hx := hid hx; clear hx
  have hmk : ∀ W : World, (Instr.makeSlice 22 (.int .i64 4) (.int .i64 4)).run Try.prog W = .ok (.slice (some ⟨W.heap.size, 0, none⟩) 4 4) (W.alloc (.cells #[.int .u8 0, .int .u8 0, .int .u8 0, .int .u8 0] 5)) := fun _ => by kernel_rfl
  go_enter Try.func35, Try.ntmps35
  go_wp2_with fail
  go_loopw [8] (fun i wr => ∃ k : Nat, k ≤ 4 ∧ i = .int .i64 k ∧ wr = w.alloc (.cells (lowC v k) 5)) (fun i _ => 4 - (intOf i).toNat)
  case atStart => exact ⟨0, by omega, rfl, rfl⟩
  case round =>
    obtain ⟨k, hk, rfl, rfl⟩ := hrel
    by_cases hlt : k < 4
    · have : k = 0 ∨ k = 1 ∨ k = 2 ∨ k = 3 := by omega
      rcases this with rfl | rfl | rfl | rfl
      all_goals
        simp only [lowC]
        go_wp2
      · go_roundw
        case rel => exact ⟨1, by omega, rfl, by simp only [lowC, bv]; rw [B0.out, ← Hx.out]; try rfl⟩
        case measure => simp [intOf]
      · go_roundw
        case rel => exact ⟨2, by omega, rfl, by simp only [lowC, bv]; rw [B1.out, ← Hx.out]; try rfl⟩
        case measure => simp [intOf]
      · go_roundw
        case rel => exact ⟨3, by omega, rfl, by simp only [lowC, bv]; rw [B2.out, ← Hx.out]; try rfl⟩
        case measure => simp [intOf]
      · go_roundw
        case rel => exact ⟨4, by omega, rfl, by simp only [lowC, bv]; rw [B3.out, ← Hx.out, show ((x : Int) / 16777216 % 256) = (x : Int) / 16777216 by have := HV.out; have := Hx.out; omega]; try rfl⟩
        case measure => simp [intOf]
    · obtain rfl : k = 4 := by omega
      go_wp2
      go_ret
      exact ⟨w.heap.size, rfl, OB_four w v _ (by rw [le4_eq]; rfl), (Below.refl _ _).alloc (Nat.le_refl _) _⟩

set_option maxRecDepth 100000 in
theorem four_calls (v : BitVec 32) (w : World) :
    Calls Try.prog 36 #[.int .u32 (v.toNat : Int)] w (RetFour w v) := by
  obtain ⟨b0, b1, b2, b3⟩ := byteOf_int v
  have hv := v.isLt
  have B0 := hid b0; have B1 := hid b1; have B2 := hid b2; have B3 := hid b3; have HV := hid hv
  clear b0 b1 b2 b3 hv
  go_enter Try.func36, Try.ntmps36
  go_wp2
  go_ret
  refine ⟨w.heap.size, rfl, OB_four w v _ ?_, (Below.refl _ _).alloc (Nat.le_refl _) _⟩
  rw [le4_eq]
  simp only [bvs, List.map_cons, List.map_nil, bv]
  rw [B0.out, B1.out, B2.out, B3.out]
  rw [show ((v.toNat : Int) / 16777216 % 256) = (v.toNat : Int) / 16777216 by have := HV.out; omega]
end Go.Proofs.Ytjfggfmhchoobaa
