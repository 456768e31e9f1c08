/- x & m for a mask of a few bits. Plain. -/
import Derived.Test.YtakebdeldndaaaaGreatDoorFound
import Derived.Laws.BitsAllLaws
namespace Go.Proofs.YtakebdeldndaaaaGreatDoor
open Go Go.RowKit
set_option linter.unusedSimpArgs false
set_option linter.unusedVariables false

theorem mask_bits (x : Int) (m : Nat) (hm : m < 4611686018427387904) : ∃ z : Nat, z ≤ m ∧ bits .and .i64 x (m : Int) = (z : Int) := by
  refine ⟨(BitVec.ofInt 64 x &&& BitVec.ofInt 64 (m : Int)).toNat, ?_, ?_⟩
  · rw [BitVec.toNat_and, BitVec.ofInt_natCast, BitVec.toNat_ofNat, Nat.mod_eq_of_lt (show m < 2 ^ 64 by omega)]
    exact Nat.and_le_right
  · have h : (BitVec.ofInt 64 x &&& BitVec.ofInt 64 (m : Int)).toNat ≤ m := by
      rw [BitVec.toNat_and, BitVec.ofInt_natCast, BitVec.toNat_ofNat, Nat.mod_eq_of_lt (show m < 2 ^ 64 by omega)]
      exact Nat.and_le_right
    show IntKind.i64.wrap ((BitVec.ofInt 64 x &&& BitVec.ofInt 64 (m : Int)).toNat : Int) = _
    generalize (BitVec.ofInt 64 x &&& BitVec.ofInt 64 (m : Int)).toNat = z at *
    rw [IntKind.wrap_i64]
    omega
end Go.Proofs.YtakebdeldndaaaaGreatDoor

