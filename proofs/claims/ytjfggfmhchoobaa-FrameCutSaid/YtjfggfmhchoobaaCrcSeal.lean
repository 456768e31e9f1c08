/- The walk of crc.Table.Seal: the bytes, and the four bytes of their sum behind them, in memory of its own. -/
import Derived.Test.YtjfggfmhchoobaaCrcNew
import Derived.Test.YtjfggfmhchoobaaApp
namespace Go.Proofs.Ytjfggfmhchoobaa
open Go Go.RowKit

/-- A call hands back bytes of its own. -/
def RetB (w : World) (bs : List UInt8) (e : Ending) (w' : World) : Prop := ∃ v, e = .returned v ∧ OB w' w.heap.size v bs ∧ Below w.heap.size w w'

/-- A byte of a word, as a shift and a cut tell it. -/
def byteOf (s : BitVec 32) (k : Nat) : UInt8 := UInt8.ofNat (s.toNat / 2 ^ (8 * k))
theorem le4_eq (s : BitVec 32) : Crc.le4 s = [byteOf s 0, byteOf s 1, byteOf s 2, byteOf s 3] := by simp [Crc.le4, byteOf]

theorem byteOf3 (s : BitVec 32) : (byteOf s 3).toNat = s.toNat / 16777216 % 256 := by
  unfold byteOf
  rw [UInt8.toNat_ofNat']
set_option maxRecDepth 100000 in
set_option maxHeartbeats 400000 in
theorem seal_calls (tb : Nat) (A : Option Addr) (c : Nat) (bs : List UInt8) (w : World) (hm : bs.length ≤ 140737488000000) (ht : TabAt w tb) (hb : RB w A bs) :
    Calls Try.prog 22 #[.pointer (some ⟨tb, 0, none⟩), .slice A bs.length c] w (RetB w (Crc.seal_ bs)) := by
  obtain ⟨n, hn⟩ : ∃ n, n = bs.length := ⟨_, rfl⟩
  have hnm : n ≤ 140737488000000 := by omega
  rw [← hn]
  have Hn := hid hn; clear hn
  have Hm := hid hm; clear hm
  have Hb := hid hb; clear hb
  have Ht := hid ht; clear ht
  go_enter Try.func22, Try.ntmps22
  go_wp2_with (at_builtin; refine wpList_appB (w0 := w) rfl (.const (.slice none 0 0)) (.tmp 8) rfl w.heap.size (.slice none 0 0) [] rfl (World.ownsRow_nil w _ _ _) (Below.refl _ _) (Nat.le_refl _) A c n bs rfl Hn Hb (by simp; omega) ?_; intro v w1 Hob Hbel _)
  have Ht1 := hid (Ht.out.below Hbel.out)
  have Hb1 := hid (Hb.out.below Hbel.out)
  go_wp2_with fail
  rw [Hn.out]
  refine (sum_calls tb A c bs w1 (by have := Hm.out; omega) Ht1.out Hb1.out).mono ?_
  rintro e w' ⟨rfl, rfl⟩
  go_wp2_with fail
  go_loopw [5, 13] (fun v i wr => ∃ k : Nat, k ≤ 4 ∧ i = .int .i64 k ∧ Hid (OB wr w.heap.size v (bs ++ (Crc.le4 (Crc.sum bs)).take k)) ∧ Hid (Below w.heap.size w wr)) (fun _ i _ => 4 - (intOf i).toNat)
  case atStart => exact ⟨0, by omega, rfl, by simpa using Hob, Hbel⟩
  case round =>
    obtain ⟨k, hk, rfl, Hob, Hbel⟩ := hrel
    have hsz := Hbel.out.size
    have hl := Crc.le4_length (Crc.sum bs)
    have hmx : bs.length + 4 < 140737488355328 := by have := Hm.out; omega
    by_cases hlt : k < 4
    · have e4 := le4_eq (Crc.sum bs)
      have : k = 0 ∨ k = 1 ∨ k = 2 ∨ k = 3 := by omega
      rcases this with rfl | rfl | rfl | rfl
      · go_wp2_with (at_builtin; refine wpList_appB1 (w0 := w) rfl (.tmp 16) (.tmp 22) rfl w.heap.size _ _ rfl Hob Hbel hsz (byteOf (Crc.sum bs) 0) _ (by simp [byteOf]) rfl (by simp; omega) ?_; intro v1 w2 Hob1 Hbel1 _)
        go_roundw
        case rel => exact ⟨1, by omega, rfl, by rw [e4] at *; simpa using Hob1, Hbel1⟩
        case measure => simp [intOf]
      · go_wp2_with (at_builtin; refine wpList_appB1 (w0 := w) rfl (.tmp 16) (.tmp 22) rfl w.heap.size _ _ rfl Hob Hbel hsz (byteOf (Crc.sum bs) 1) _ (by simp [byteOf]) rfl (by simp; omega) ?_; intro v1 w2 Hob1 Hbel1 _)
        go_roundw
        case rel => exact ⟨2, by omega, rfl, by rw [e4] at *; simpa using Hob1, Hbel1⟩
        case measure => simp [intOf]
      · go_wp2_with (at_builtin; refine wpList_appB1 (w0 := w) rfl (.tmp 16) (.tmp 22) rfl w.heap.size _ _ rfl Hob Hbel hsz (byteOf (Crc.sum bs) 2) _ (by simp [byteOf]) rfl (by simp; omega) ?_; intro v1 w2 Hob1 Hbel1 _)
        go_roundw
        case rel => exact ⟨3, by omega, rfl, by rw [e4] at *; simpa using Hob1, Hbel1⟩
        case measure => simp [intOf]
      · go_wp2_with (at_builtin; refine wpList_appB1 (w0 := w) rfl (.tmp 16) (.tmp 22) rfl w.heap.size _ _ rfl Hob Hbel hsz (byteOf (Crc.sum bs) 3) _ (by have := byteOf3 (Crc.sum bs); omega) rfl (by simp; omega) ?_; intro v1 w2 Hob1 Hbel1 _)
        go_roundw
        case rel => exact ⟨4, by omega, rfl, by rw [e4] at *; simpa using Hob1, Hbel1⟩
        case measure => simp [intOf]
    · obtain rfl : k = 4 := by omega
      have h4 : (Crc.le4 (Crc.sum bs)).take 4 = Crc.le4 (Crc.sum bs) := List.take_of_length_le (by rw [hl]; omega)
      rw [h4] at Hob
      go_wp2
      go_ret
      exact ⟨_, rfl, by rw [Crc.seal_eq]; exact Hob, Hbel⟩
end Go.Proofs.Ytjfggfmhchoobaa
