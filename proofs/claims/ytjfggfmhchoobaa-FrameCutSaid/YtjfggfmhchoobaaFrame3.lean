/- The walk of frame.Take (chapter 9). -/
import Derived.Test.YtjfggfmhchoobaaFrame2
import Derived.Test.YtjfggfmhchoobaaFrameMath
import Derived.Laws.Bits64b
namespace Go.Proofs.Ytjfggfmhchoobaa
open Go Go.RowKit
set_option linter.unusedSimpArgs false
set_option linter.unusedVariables false

/-- The number that the first k bytes are. -/
def pw (bs : List UInt8) : Nat → Nat
  | 0 => 0
  | k + 1 => pw bs k + 2 ^ (8 * k) * (bs.getD k 0).toNat
theorem pw_four (bs : List UInt8) : pw bs 4 = Frm.word4 bs := by simp [pw, Frm.word4]
theorem pw_lt (bs : List UInt8) : ∀ k, pw bs k < 2 ^ (8 * k)
  | 0 => by simp [pw]
  | k + 1 => by
    have h := pw_lt bs k
    have hb : (bs.getD k 0).toNat < 256 := UInt8.toNat_lt _
    have e : 2 ^ (8 * (k + 1)) = 2 ^ (8 * k) * 256 := by rw [Nat.mul_add, Nat.pow_add]
    rw [e]
    show pw bs k + 2 ^ (8 * k) * (bs.getD k 0).toNat < _
    have : 2 ^ (8 * k) * (bs.getD k 0).toNat ≤ 2 ^ (8 * k) * 255 := Nat.mul_le_mul_left _ (by omega)
    omega
theorem pw_or (bs : List UInt8) (k : Nat) : pw bs k ||| (bs.getD k 0).toNat <<< (8 * k) = pw bs (k + 1) := by
  rw [Nat.or_comm, Nat.shiftLeft_eq, Nat.mul_comm, ← Nat.two_pow_add_eq_or_of_lt (pw_lt bs k)]
  show _ = pw bs k + _; omega

theorem pow_few (k : Nat) (hk : k < 4) : 2 ^ (8 * k) = 1 ∨ 2 ^ (8 * k) = 256 ∨ 2 ^ (8 * k) = 65536 ∨ 2 ^ (8 * k) = 16777216 := by
  obtain rfl | rfl | rfl | rfl : k = 0 ∨ k = 1 ∨ k = 2 ∨ k = 3 := by omega
  all_goals decide
theorem pw_go (bs : List UInt8) (k : Nat) (b : UInt8) (hb : b = bs.getD k 0) (hk : k < 4) : bits BinOp.or IntKind.u64 ((pw bs k : Nat) : Int) (IntKind.u64.wrap (IntKind.u64.wrap (b.toNat : Int) * 2 ^ (8 * k))) = ((pw bs (k + 1) : Nat) : Int) := by
  have h1 := pw_lt bs k
  have hlt : b.toNat < 256 := b.toNat_lt
  have hc : ((2 : Int) ^ (8 * k)) = ((2 ^ (8 * k) : Nat) : Int) := (Int.natCast_pow 2 (8 * k)).symm
  rw [← pw_or, hb.symm, Nat.shiftLeft_eq, hc, IntKind.wrap_u64, IntKind.wrap_u64]
  have hp := pow_few k hk
  generalize 2 ^ (8 * k) = p at hp h1 ⊢
  generalize b.toNat = x at hlt ⊢
  generalize pw bs k = y at h1 ⊢
  have e : ((x : Int) % 18446744073709551616 * (p : Int) % 18446744073709551616) = ((x * p : Nat) : Int) := by
    rcases hp with rfl | rfl | rfl | rfl
    all_goals (rw [Int.natCast_mul]; omega)
  have h2 : y < 18446744073709551616 := by omega
  have h3 : x * p < 18446744073709551616 := by
    rcases hp with rfl | rfl | rfl | rfl
    all_goals omega
  rw [e, bits_or_u64_nat _ _ h2 h3]
theorem word4_lt (bs : List UInt8) : Frm.word4 bs < 4294967296 := by
  have := pw_lt bs 4
  rw [pw_four] at this; exact this
theorem take_long {bs : List UInt8} {N s : Nat} (hn : N + 8 = bs.length) (hs : s = Frm.word4 bs) (h : N < s) : Frm.takeF bs = none := by
  unfold Frm.takeF
  rw [if_neg (by omega), if_pos (by left; omega)]
theorem take_big {bs : List UInt8} {N s : Nat} (hn : N + 8 = bs.length) (hs : s = Frm.word4 bs) (h : 16384 < s) : Frm.takeF bs = none := by
  unfold Frm.takeF
  rw [if_neg (by omega), if_pos (by right; omega)]
theorem take_else {bs : List UInt8} {N s : Nat} (hn : N + 8 = bs.length) (hs : s = Frm.word4 bs) (h : s ≤ N) (h' : s ≤ 16384) : Frm.takeF bs = if (Frm.frm ((bs.drop 8).take s) == bs.take (8 + s)) = true then some ((bs.drop 8).take s) else none := by
  unfold Frm.takeF
  rw [if_neg (by omega), if_neg (by omega), ← hs]
  simp only [beq_iff_eq]

/-- What Take answers. -/
def RetTake (w : World) (bs : List UInt8) (e : Ending) (w' : World) : Prop :=
  Below w.heap.size w w' ∧ match Frm.takeF bs with
    | none => e = .returned (.tuple #[.slice none 0 0, .int .i64 0])
    | some x => ∃ v, e = .returned (.tuple #[v, .int .i64 ((8 + x.length : Nat) : Int)]) ∧ OB w' w.heap.size v x

set_option maxRecDepth 100000 in
set_option maxHeartbeats 2000000 in
theorem take_at (tb : Nat) (A : Option Addr) (n c : Nat) (bs : List UInt8) (w : World) (hn : n = bs.length) (hm : n ≤ 140737488000000) (hc : n ≤ c) (ht : TabAt w tb) (hb : RB w A bs) :
    Calls Try.prog 28 #[.pointer (some ⟨tb, 0, none⟩), .slice A n c] w (RetTake w bs) := by
  have Hn := hid hn; clear hn
  have Hb := hid hb; clear hb
  have Ht := hid ht; clear ht
  by_cases h8 : n < 8
  · go_enter Try.func28, Try.ntmps28
    go_wp2
    go_ret2
    refine ⟨Below.refl _ _, ?_⟩
    have : Frm.takeF bs = none := by unfold Frm.takeF; rw [if_pos (by have := Hn.out; omega)]
    rw [this]
    exact rfl
  obtain ⟨N, rfl⟩ : ∃ N, n = N + 8 := ⟨n - 8, by omega⟩
  obtain ⟨g, o, rfl⟩ : ∃ g o, A = some ⟨g, o, none⟩ := by
    obtain ⟨g, o, h, _⟩ := Hb.out.at_ 0 (by have := Hn.out; omega)
    exact ⟨g, o, h⟩
  have hne : ¬ ((N : Int) + 8 < 8) := by omega
  have hn4 : (4 : Int) ≤ (N : Int) + 8 := by omega
  have hn4' : (4 : Int) ≤ (c : Int) := by omega
  go_enter Try.func28, Try.ntmps28
  go_wp2_with fail
  have Hrd := hid (fun (k : Nat) (hk : k < 4) => (by
    obtain ⟨g', o', e, h⟩ := Hb.out.at_ k (by have := Hn.out; omega)
    simp only [Option.some.injEq, Addr.mk.injEq, and_true] at e
    obtain ⟨rfl, rfl⟩ := e
    rw [h, List.getD_eq_getElem?_getD, List.getElem?_eq_getElem (by have := Hn.out; omega)]; rfl : w.cell? ⟨g, o + k, none⟩ = some (.int .u8 ((bs.getD k 0).toNat : Int))))
  go_loopw [6, 18] (fun n i wr => ∃ k : Nat, k ≤ 4 ∧ i = .int .i64 k ∧ n = .int .u64 ((pw bs k : Nat) : Int) ∧ wr = w) (fun _ i _ => 4 - (intOf i).toNat)
  case atStart => exact ⟨0, by omega, rfl, rfl, rfl⟩
  case round =>
    obtain ⟨k, hk4, rfl, rfl, rfl⟩ := hrel
    obtain ⟨s, hs⟩ : ∃ s, s = pw bs k := ⟨_, rfl⟩
    have Hs := hid hs
    rw [← hs]; clear hs
    by_cases h4 : k < 4
    · have Hc := hid (Hrd.out k h4)
      obtain ⟨b, hb⟩ : ∃ b, b = bs.getD k 0 := ⟨_, rfl⟩
      rw [← hb] at Hc
      have Hbb := hid hb; clear hb
      have hc1 := Hc.out
      go_wp2_with fail
      go_roundw
      case rel =>
        refine ⟨k + 1, by omega, rfl, ?_, trivial⟩
        rw [Hs.out]
        exact congrArg _ (pw_go bs k b Hbb.out h4)
      case measure => simp [intOf]; omega
    · obtain rfl : k = 4 := by omega
      rw [pw_four] at Hs
      have hs32 : s < 4294967296 := by rw [Hs.out]; exact word4_lt bs
      by_cases hsn : N < s
      · have hsn' : (N : Int) < (s : Int) := by omega
        have Hnone : Hid (Frm.takeF bs = none) := take_long Hn.out Hs.out hsn
        clear hs32
        go_wp2
        go_ret2
        refine ⟨Below.refl _ _, ?_⟩
        rw [Hnone.out]
        exact rfl
      have hsn' : s ≤ N := by omega
      clear hs32
      obtain ⟨x, hx⟩ : ∃ x, x = (bs.drop 8).take s := ⟨_, rfl⟩
      have Hx := hid hx
      have Hxl := hid (show s = x.length by rw [hx, List.length_take, List.length_drop, ← Hn.out]; omega)
      have Hend := hid (show 8 + s = (bs.take (8 + s)).length by rw [List.length_take, ← Hn.out]; omega)
      have hE : Hid ((8 + (s : Int)).toNat = 8 + s) := by show _ = _; omega
      by_cases hc8 : 8 < c
      · have Hrx := hid (show RB wr (some ⟨g, o + 8, none⟩) x by rw [hx]; exact (Hb.out.drop 8).take s)
        clear hx
        go_wp2_with fail
        by_cases hbig : 16384 < s
        · have Hnone : Hid (Frm.takeF bs = none) := take_big Hn.out Hs.out hbig
          have hcc := put_big tb (some ⟨g, o + 8, none⟩) s (c - 8) wr hbig
          refine hcc.mono ?_; clear hcc
          rintro e w' ⟨rfl, rfl⟩
          go_wp2
          go_ret2
          refine ⟨Below.refl _ _, ?_⟩
          rw [Hnone.out]
          exact rfl
        have hsb : s ≤ 16384 := by omega
        have Helse := hid (take_else Hn.out Hs.out hsn' hsb)
        rw [← Hx.out] at Helse
        have hcc := put_at tb (some ⟨g, o + 8, none⟩) s (c - 8) x wr Hxl.out hsb Ht.out Hrx.out
        refine hcc.mono ?_; clear hcc
        rintro e w1 ⟨v1, rfl, hO1, hB1⟩
        have HB1 := hid hB1; clear hB1
        obtain ⟨A1, c1, rfl, hc1, Hr1⟩ := hO1.readAt
        clear hO1
        have Hre := hid ((Hb.out.take (8 + s)).below HB1.out)
        have Hrx1 := hid (Hrx.out.below HB1.out)
        go_wp2_with fail
        have hcc := equal_at A1 (some ⟨g, o, none⟩) (Frm.frm x).length (8 + s) c1 c (Frm.frm x) (bs.take (8 + s)) w1 rfl Hend.out Hr1.out Hre.out
        refine hcc.mono ?_; clear hcc
        rintro e w' ⟨rfl, rfl⟩
        cases hq : (Frm.frm x == bs.take (8 + s))
        · rw [hq] at Helse
          have Hnone : Hid (Frm.takeF bs = none) := Helse.out
          clear hq Helse
          go_wp2
          go_ret2
          refine ⟨HB1.out, ?_⟩
          rw [Hnone.out]
          exact rfl
        rw [hq] at Helse
        have Hsome : Hid (Frm.takeF bs = some x) := Helse.out
        clear hq Helse
        go_wp2_with fail
        have hcc := clone_at (some ⟨g, o + 8, none⟩) s (c - 8) x w1 Hxl.out (by omega) Hrx1.out
        refine hcc.mono ?_; clear hcc
        rintro e w2 ⟨v2, rfl, hO2, hB2⟩
        have HO2 := hid hO2; have HB2 := hid hB2; clear hO2 hB2
        go_wp2
        go_ret2
        refine ⟨below_all HB1.out HB2.out, ?_⟩
        rw [Hsome.out]
        refine ⟨_, by rw [← Hxl.out]; rfl, HO2.out.base HB1.out.size⟩
      · obtain rfl : c = 8 := by omega
        have Hrx := hid (show RB wr (some ⟨g, o, none⟩) x by rw [hx, show s = 0 by omega]; exact RB.nil _ _)
        clear hx
        go_wp2_with fail
        by_cases hbig : 16384 < s
        · have Hnone : Hid (Frm.takeF bs = none) := take_big Hn.out Hs.out hbig
          have hcc := put_big tb (some ⟨g, o, none⟩) s 0 wr hbig
          refine hcc.mono ?_; clear hcc
          rintro e w' ⟨rfl, rfl⟩
          go_wp2
          go_ret2
          refine ⟨Below.refl _ _, ?_⟩
          rw [Hnone.out]
          exact rfl
        have hsb : s ≤ 16384 := by omega
        have Helse := hid (take_else Hn.out Hs.out hsn' hsb)
        rw [← Hx.out] at Helse
        have hcc := put_at tb (some ⟨g, o, none⟩) s 0 x wr Hxl.out hsb Ht.out Hrx.out
        refine hcc.mono ?_; clear hcc
        rintro e w1 ⟨v1, rfl, hO1, hB1⟩
        have HB1 := hid hB1; clear hB1
        obtain ⟨A1, c1, rfl, hc1, Hr1⟩ := hO1.readAt
        clear hO1
        have Hre := hid ((Hb.out.take (8 + s)).below HB1.out)
        have Hrx1 := hid (Hrx.out.below HB1.out)
        go_wp2_with fail
        have hcc := equal_at A1 (some ⟨g, o, none⟩) (Frm.frm x).length (8 + s) c1 8 (Frm.frm x) (bs.take (8 + s)) w1 rfl Hend.out Hr1.out Hre.out
        refine hcc.mono ?_; clear hcc
        rintro e w' ⟨rfl, rfl⟩
        cases hq : (Frm.frm x == bs.take (8 + s))
        · rw [hq] at Helse
          have Hnone : Hid (Frm.takeF bs = none) := Helse.out
          clear hq Helse
          go_wp2
          go_ret2
          refine ⟨HB1.out, ?_⟩
          rw [Hnone.out]
          exact rfl
        rw [hq] at Helse
        have Hsome : Hid (Frm.takeF bs = some x) := Helse.out
        clear hq Helse
        go_wp2_with fail
        have hcc := clone_at (some ⟨g, o, none⟩) s 0 x w1 Hxl.out (by omega) Hrx1.out
        refine hcc.mono ?_; clear hcc
        rintro e w2 ⟨v2, rfl, hO2, hB2⟩
        have HO2 := hid hO2; have HB2 := hid hB2; clear hO2 hB2
        go_wp2
        go_ret2
        refine ⟨below_all HB1.out HB2.out, ?_⟩
        rw [Hsome.out]
        refine ⟨_, by rw [← Hxl.out]; rfl, HO2.out.base HB1.out.size⟩
end Go.Proofs.Ytjfggfmhchoobaa
