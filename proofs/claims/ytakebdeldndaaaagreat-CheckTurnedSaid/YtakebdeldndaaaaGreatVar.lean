/- Numbers as bytes. Plain. -/
import Derived.Test.YtakebdeldndaaaaGreatFound
namespace Go.Proofs.YtakebdeldndaaaaGreat
open Go
set_option linter.unusedVariables false

def zig (x : Int) : Nat := if 0 ≤ x then (2 * x).toNat else (-2 * x - 1).toNat
def varB (u : Nat) : List UInt8 := if h : u < 128 then [UInt8.ofNat u] else UInt8.ofNat (u % 128 + 128) :: varB (u / 128)
termination_by u
def encB (x : Int) : List UInt8 := varB (zig x)
theorem varB_one {u : Nat} (h : u < 128) : varB u = [UInt8.ofNat u] := by rw [varB, dif_pos h]
theorem varB_more {u : Nat} (h : ¬ u < 128) : varB u = UInt8.ofNat (u % 128 + 128) :: varB (u / 128) := by rw [varB, dif_neg h]
theorem varB_len : ∀ (k : Nat) (u : Nat), u < 128 ^ (k + 1) → (varB u).length ≤ k + 1
  | 0, u, h => by rw [varB_one (by simpa using h)]; simp
  | k + 1, u, h => by
    by_cases h1 : u < 128
    · rw [varB_one h1]; simp
    · rw [varB_more h1, List.length_cons]
      have := varB_len k (u / 128) (by rw [Nat.div_lt_iff_lt_mul (by decide)]; rw [Nat.pow_succ] at h; exact h)
      omega
theorem varB_pos (u : Nat) : 1 ≤ (varB u).length := by
  by_cases h : u < 128
  · rw [varB_one h]; simp
  · rw [varB_more h]; simp
theorem zig_lt {x : Int} (h : -9223372036854775808 ≤ x ∧ x ≤ 9223372036854775807) : zig x < 18446744073709551616 := by
  unfold zig; split <;> omega
theorem encB_len {x : Int} (h : -9223372036854775808 ≤ x ∧ x ≤ 9223372036854775807) : (encB x).length ≤ 10 := varB_len 9 _ (Nat.lt_trans (zig_lt h) (by decide))
/-- A text. -/
def encT (s : List UInt8) : List UInt8 := encB (s.length : Int) ++ s
theorem encT_len {s : List UInt8} (h : s.length ≤ 1000000) : (encT s).length ≤ 10 + s.length := by
  have := encB_len (x := (s.length : Int)) (by omega)
  unfold encT
  rw [List.length_append]; omega
set_option maxRecDepth 20000 in
theorem or_more : ∀ a : Nat, a < 256 → a ||| 128 = a % 128 + 128 := by decide
end Go.Proofs.YtakebdeldndaaaaGreat
