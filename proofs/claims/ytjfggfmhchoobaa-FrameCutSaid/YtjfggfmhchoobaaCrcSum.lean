/- The walk of crc.Table.Sum: over a table as New makes it, it tells the sum of the bytes; nothing is written. -/
import Derived.Test.YtjfggfmhchoobaaProg
import Derived.Test.YtjfggfmhchoobaaBase
import Derived.Test.YtjfggfmhchoobaaCrcMath
import Derived.Laws.BitsAllLaws
namespace Go.Proofs.Ytjfggfmhchoobaa
open Go Go.RowKit

/-- The block 'tb' holds the table. -/
def TabAt (w : World) (tb : Nat) : Prop := ∀ i : Nat, i < 256 → w.cell? ⟨tb, i, none⟩ = some (.int .u32 ((Crc.tab i).toNat : Int))
theorem TabAt.below {w w1 : World} {tb : Nat} (h : TabAt w tb) (hb : Below w.heap.size w w1) : TabAt w1 tb := fun i hi => by
  have := h i hi
  rw [← this]
  exact hb.cell (p := ⟨tb, i, none⟩) (World.block_lt_of_cell? w ⟨tb, i, none⟩ this)
theorem TabAt.lt {w : World} {tb : Nat} (h : TabAt w tb) : tb < w.heap.size := World.block_lt_of_cell? w ⟨tb, 0, none⟩ (h 0 (by omega))

set_option maxRecDepth 100000 in
theorem sum_calls (tb : Nat) (A : Option Addr) (c : Nat) (bs : List UInt8) (w : World) (hm : bs.length ≤ 140737488355328) (ht : TabAt w tb) (hb : RB w A bs) :
    Calls Try.prog 17 #[.pointer (some ⟨tb, 0, none⟩), .slice A bs.length c] w fun e w' => e = .returned (.int .u32 ((Crc.sum bs).toNat : Int)) ∧ w = w' := by
  obtain ⟨n, hn⟩ : ∃ n, n = bs.length := ⟨_, rfl⟩
  rw [← hn] at hm ⊢
  have Hn := hid hn; clear hn
  go_enter Try.func17, Try.ntmps17
  go_wp2
  go_loop [5, 10] (fun r i => ∃ k : Nat, k ≤ n ∧ i = .int .i64 k ∧ r = .int .u32 ((Crc.reg Crc.ones (bs.take k)).toNat : Int)) (fun _ i => n - (intOf i).toNat)
  case atStart => exact ⟨0, by omega, rfl, by simp [Crc.reg, Crc.ones]⟩
  case round =>
    obtain ⟨k, hk, rfl, rfl⟩ := hrel
    by_cases hlt : k < n
    · have hlt' : k < bs.length := by rw [← Hn.out]; exact hlt
      have hs := congrArg BitVec.toNat (show Crc.reg Crc.ones (bs.take (k + 1)) = Crc.upd (Crc.reg Crc.ones (bs.take k)) bs[k] by
        rw [← Crc.reg_snoc, List.take_succ_eq_append_getElem hlt'])
      rw [Crc.upd_toNat] at hs
      have hrl := (Crc.reg Crc.ones (bs.take k)).isLt
      generalize (Crc.reg Crc.ones (bs.take k)).toNat = r at hs hrl ⊢
      obtain ⟨p, o, rfl, hc⟩ := hb.at_ k hlt'
      have hcl := bs[k].toNat_lt
      generalize bs[k].toNat = x at hs hc hcl
      have hx : r % 256 ^^^ x < 2 ^ 8 := Nat.xor_lt_two_pow (by omega) (by omega)
      have e1 : bits .xor .u8 ((r : Int) % 256) (x : Int) = ((r % 256 ^^^ x : Nat) : Int) := by
        rw [show ((r : Int) % 256) = ((r % 256 : Nat) : Int) by omega]; exact u8_xor_nat (r % 256) x (by omega) hcl
      have hti := ht (r % 256 ^^^ x) (by omega)
      have htl := (Crc.tab (r % 256 ^^^ x)).isLt
      generalize (Crc.tab (r % 256 ^^^ x)).toNat = y at hs hti htl
      generalize r % 256 ^^^ x = z at hs hti e1 hx
      have e2 : bits .xor .u32 ((r : Int) / 256) (y : Int) = ((r / 256 ^^^ y : Nat) : Int) := by
        rw [show ((r : Int) / 256) = ((r / 256 : Nat) : Int) by omega]; exact u32_xor_nat (r / 256) y (by omega) htl
      rw [← hs] at e2
      have hx' : z < 256 := hx
      have Hs := hid hs; clear hs hb ht hx hrl hcl htl
      go_wp2
      go_round
      case rel => exact ⟨k + 1, by omega, by go_num, rfl⟩
      case measure => simp [intOf]; omega
    · obtain rfl : k = n := by omega
      have hl : bs.take k = bs := List.take_of_length_le (by rw [← Hn.out]; exact Nat.le_refl _)
      rw [hl]
      have e3 : bits .xor .u32 IntKind.u32.max ((Crc.reg Crc.ones bs).toNat : Int) = ((Crc.sum bs).toNat : Int) := by
        have := u32_xor_nat 4294967295 (Crc.reg Crc.ones bs).toNat (by omega) (Crc.reg Crc.ones bs).isLt
        rw [show IntKind.u32.max = ((4294967295 : Nat) : Int) from rfl, this]
        unfold Crc.sum
        rw [BitVec.toNat_xor, Nat.xor_comm]
        rfl
      clear hl hb ht
      go_wp2
      go_ret
      exact ⟨rfl, rfl⟩
end Go.Proofs.Ytjfggfmhchoobaa
