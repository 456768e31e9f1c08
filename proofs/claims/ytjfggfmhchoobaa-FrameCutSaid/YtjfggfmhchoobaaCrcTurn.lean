/- A row of bytes of which a few side by side are turned: its sum is another one, and a sealed row is none any more. Plain lists; no program. -/
import Derived.Test.YtjfggfmhchoobaaCrcMath
namespace Go.Proofs.Ytjfggfmhchoobaa
namespace Crc

/-- The bytes from p on are turned by those of l. -/
def turnAt (s : List UInt8) (p : Nat) (l : List UInt8) : List UInt8 := List.zipWith (· ^^^ ·) s (List.replicate p 0 ++ l ++ List.replicate (s.length - p - l.length) 0)
theorem turnAt_length (s : List UInt8) (p : Nat) (l : List UInt8) (h : p + l.length ≤ s.length) : (turnAt s p l).length = s.length := by
  simp [turnAt]; omega
theorem turnAt_get (s : List UInt8) (p : Nat) (l : List UInt8) (h : p + l.length ≤ s.length) (j : Nat) :
    (turnAt s p l)[j]? = if p ≤ j ∧ j < p + l.length then (s[j]?).map (· ^^^ l.getD (j - p) 0) else s[j]? := by
  unfold turnAt
  rw [List.getElem?_zipWith]
  by_cases hj : j < s.length
  · rw [List.getElem?_eq_getElem hj]
    by_cases h1 : j < p
    · have : (List.replicate p (0 : UInt8) ++ l ++ List.replicate (s.length - p - l.length) 0)[j]? = some 0 := by
        rw [List.append_assoc, List.getElem?_append_left (by simpa using h1)]; simp [h1]
      rw [this, if_neg (by omega)]; simp
    · by_cases h2 : j < p + l.length
      · have : (List.replicate p (0 : UInt8) ++ l ++ List.replicate (s.length - p - l.length) 0)[j]? = some (l.getD (j - p) 0) := by
          rw [List.append_assoc, List.getElem?_append_right (by simp; omega), List.getElem?_append_left (by simp; omega)]
          simp [List.getD, show j - p < l.length by omega]
        rw [this, if_pos (by omega)]; simp
      · have : (List.replicate p (0 : UInt8) ++ l ++ List.replicate (s.length - p - l.length) 0)[j]? = some 0 := by
          rw [List.getElem?_append_right (by simp; omega), List.getElem?_replicate, if_pos (by simp; omega)]
        rw [this, if_neg (by omega)]; simp
  · rw [List.getElem?_eq_none (by omega)]; simp
theorem turnAt_nil (s : List UInt8) (p : Nat) (h : p ≤ s.length) : turnAt s p [] = s := by
  apply List.ext_getElem?
  intro j
  rw [turnAt_get s p [] (by simpa using h)]
  simp only [List.length_nil, Nat.add_zero]
  rw [if_neg (by omega)]
/-- One more is turned. -/
theorem turnAt_snoc (s : List UInt8) (p : Nat) (l : List UInt8) (c x : UInt8) (h : p + l.length < s.length) (hx : (turnAt s p l)[p + l.length]? = some x) :
    turnAt s p (l ++ [c]) = (turnAt s p l).set (p + l.length) (x ^^^ c) := by
  apply List.ext_getElem?
  intro j
  have hlen := turnAt_length s p l (by omega)
  rw [turnAt_get s p (l ++ [c]) (by simp; omega), List.getElem?_set, turnAt_get s p l (by omega)]
  rw [turnAt_get s p l (by omega), if_neg (by omega)] at hx
  simp only [List.length_append, List.length_cons, List.length_nil]
  by_cases e : p + l.length = j
  · subst e
    rw [if_pos (by omega), if_pos rfl, if_pos (by rw [hlen]; exact h), hx]
    simp [List.getD]
  · rw [if_neg e]
    by_cases h1 : p ≤ j ∧ j < p + l.length
    · rw [if_pos (by omega), if_pos h1]
      congr 2
      funext y
      simp [List.getD, List.getElem?_append_left (show j - p < l.length by omega)]
    · rw [if_neg (by omega), if_neg h1]
/-- What the register makes of it. -/
theorem reg_turnAt (r : BitVec 32) (s : List UInt8) (p : Nat) (l : List UInt8) (h : p + l.length ≤ s.length) :
    reg r (turnAt s p l) = reg r s ^^^ reg 0#32 (List.replicate p 0 ++ l ++ List.replicate (s.length - p - l.length) 0) := by
  have := reg_xor s (List.replicate p 0 ++ l ++ List.replicate (s.length - p - l.length) 0) r 0#32 (by simp; omega)
  rw [BitVec.xor_zero] at this
  exact this
theorem turnAt_zero (s : List UInt8) (p : Nat) (l : List UInt8) (h : p + l.length ≤ s.length) (hz : ∀ c ∈ l, c = 0) : turnAt s p l = s := by
  apply List.ext_getElem?
  intro j
  rw [turnAt_get s p l h]
  split
  · rename_i hj
    have : l.getD (j - p) 0 = 0 := by
      rw [List.getD, List.getElem?_eq_getElem (by omega)]
      exact hz _ (List.getElem_mem _)
    rw [this]
    simp
  · rfl
theorem sum_turn_ne (s : List UInt8) (p : Nat) (l : List UInt8) (h : p + l.length ≤ s.length) (h4 : l.length ≤ 4) (c : UInt8) (hc : c ∈ l) (hne : c ≠ 0) : sum (turnAt s p l) ≠ sum s := by
  intro e
  unfold sum at e
  have e1 := congrArg (· ^^^ ones) e
  simp only [BitVec.xor_assoc, BitVec.xor_self, BitVec.xor_zero] at e1
  rw [reg_turnAt _ _ _ _ h] at e1
  have e2 := congrArg (reg ones s ^^^ ·) e1
  simp only [← BitVec.xor_assoc, BitVec.xor_self, BitVec.zero_xor] at e2
  exact hne (burst p (s.length - p - l.length) l h4 e2 c hc)
theorem good_turn (b : List UInt8) (p : Nat) (l : List UInt8) (h : p + l.length ≤ (seal_ b).length) (h4 : l.length ≤ 4) : good (turnAt (seal_ b) p l) = decide (∀ c ∈ l, c = 0) := by
  by_cases hz : ∀ c ∈ l, c = 0
  · rw [turnAt_zero _ _ _ h hz, good_seal]; exact (decide_eq_true hz).symm
  · have : good (turnAt (seal_ b) p l) = false := by
      rw [Bool.eq_false_iff]
      intro hg
      have hlen : 4 ≤ (seal_ b).length := by rw [seal_length]; omega
      rw [good_iff _ (by rw [turnAt_length _ _ _ h]; exact hlen), reg_turnAt _ _ _ _ h] at hg
      have hs := (good_iff _ hlen).1 (good_seal b)
      rw [hs] at hg
      have e2 := congrArg (rest ^^^ ·) hg
      simp only [← BitVec.xor_assoc, BitVec.xor_self, BitVec.zero_xor] at e2
      exact hz (burst p _ l h4 e2)
    rw [this]; exact (decide_eq_false hz).symm
end Crc
end Go.Proofs.Ytjfggfmhchoobaa
