/- Names, by bytes: what may be one; and what the runes of a text tell of it. -/
import Derived.Test.YtpmmapcjohmniaaGreatFound
import Derived.Lib.DecodeN
import Derived.Laws.RangeAny
namespace Go.Proofs.YtpmmapcjohmniaaGreat
open Go Go.RowKit
set_option linter.unusedSimpArgs false
set_option linter.unusedVariables false

/-- A letter of one byte. -/
def plainB (c : UInt8) : Bool := (decide (97 ≤ c.toNat) && decide (c.toNat ≤ 122)) || (decide (48 ≤ c.toNat) && decide (c.toNat ≤ 57)) || decide (c.toNat = 45) || decide (c.toNat = 95)
/-- A letter of two bytes. -/
def twoB (a b : UInt8) : Bool := (decide (a.toNat = 195) && (decide (b.toNat = 169) || decide (b.toNat = 184) || decide (b.toNat = 159))) || (decide (a.toNat = 206) && decide (b.toNat = 187))
/-- Letters alone. -/
def allN : List UInt8 → Bool
  | [] => true
  | a :: l => if plainB a then allN l else match l with
    | [] => false
    | b :: r => twoB a b && allN r
theorem allN_cons (a : UInt8) (l : List UInt8) : allN (a :: l) = if plainB a then allN l else match l with
    | [] => false
    | b :: r => twoB a b && allN r := by
  rw [allN.eq_def]
/-- What no name begins with. -/
def badB (c : UInt8) : Bool := (decide (48 ≤ c.toNat) && decide (c.toNat ≤ 57)) || decide (c.toNat = 45)
def badHead : List UInt8 → Bool
  | [] => false
  | c :: _ => badB c
/-- A name. -/
def mayN (s : List UInt8) : Bool := decide (1 ≤ s.length) && decide (s.length ≤ 24) && !badHead s && allN s
/-- A letter, as a rune. -/
def letR (c : Int) : Bool := (decide (97 ≤ c) && decide (c ≤ 122)) || (decide (48 ≤ c) && decide (c ≤ 57)) || decide (c = 45) || decide (c = 95) || decide (c = 233) || decide (c = 248) || decide (c = 223) || decide (c = 955)
theorem str_get (s : List UInt8) (i : Nat) : (str s).get! i = (s[i]?).getD 0 := by
  show (s.toArray)[i]! = _
  rw [getElem!_def]
  simp only [List.getElem?_toArray]
  cases s[i]? <;> rfl
def byteAt (s : List UInt8) (i : Nat) : Nat := ((s[i]?).getD 0).toNat
theorem byteAt_lt (s : List UInt8) (i : Nat) : byteAt s i < 256 := UInt8.toNat_lt _
theorem byteAt_out {s : List UInt8} {i : Nat} (h : s.length ≤ i) : byteAt s i = 0 := by
  unfold byteAt; rw [List.getElem?_eq_none h]; rfl
theorem decode_str (s : List UInt8) (i : Nat) : Utf8.decode (str s) i = Lib.decodeN (s.length - i) (byteAt s i) (byteAt s (i + 1)) (byteAt s (i + 2)) (byteAt s (i + 3)) := by
  rw [Lib.decode_at, str_get, str_get, str_get, str_get, str_size]
  rfl
theorem drop_two {s : List UInt8} {i : Nat} (h : i < s.length) : ∃ a l, s.drop i = a :: l ∧ l = s.drop (i + 1) ∧ a.toNat = byteAt s i := by
  refine ⟨s[i], s.drop (i + 1), List.drop_eq_getElem_cons h, rfl, ?_⟩
  unfold byteAt; rw [List.getElem?_eq_getElem h]; rfl
theorem dec_low {n b0 b1 b2 b3 c wd : Nat} (h0 : ¬ b0 < 128) (hd : Lib.decodeN n b0 b1 b2 b3 = (c, wd)) (hc : c < 1000) : b0 / 32 = 6 ∧ 1 < n ∧ b1 / 64 = 2 ∧ c = b0 % 32 * 64 + b1 % 64 ∧ wd = 2 ∧ 128 ≤ c := by
  unfold Lib.decodeN at hd
  rw [if_neg h0] at hd
  by_cases h1 : b0 / 32 = 6 ∧ (1 < n ∧ b1 / 64 = 2)
  · rw [if_pos h1] at hd
    split at hd
    · rename_i hv
      simp only [Prod.mk.injEq] at hd
      exact ⟨h1.1, h1.2.1, h1.2.2, hd.1.symm, hd.2.symm, by rw [← hd.1]; exact hv⟩
    · simp only [Prod.mk.injEq] at hd
      exact absurd hc (by rw [← hd.1]; decide)
  · rw [if_neg h1] at hd
    split at hd
    · split at hd
      · rename_i hv
        simp only [Prod.mk.injEq] at hd
        exact absurd hc (by rw [← hd.1]; exact Nat.not_lt.2 (Nat.le_trans (by decide) hv.1))
      · simp only [Prod.mk.injEq] at hd
        exact absurd hc (by rw [← hd.1]; decide)
    · split at hd
      · split at hd
        · rename_i hv
          simp only [Prod.mk.injEq] at hd
          exact absurd hc (by rw [← hd.1]; exact Nat.not_lt.2 (Nat.le_trans (by decide) hv.1))
        · simp only [Prod.mk.injEq] at hd
          exact absurd hc (by rw [← hd.1]; decide)
      · simp only [Prod.mk.injEq] at hd
        exact absurd hc (by rw [← hd.1]; decide)
set_option maxHeartbeats 4000000 in
/-- One rune on. -/
theorem allN_step {s : List UInt8} {i : Nat} (h : i < s.length) {c wd : Nat} (hd : Utf8.decode (str s) i = (c, wd)) :
    allN (s.drop i) = (letR (c : Int) && allN (s.drop (i + wd))) ∧ (letR (c : Int) = true → 1 ≤ wd ∧ i + wd ≤ s.length ∧ ((decide ((c : Int) ≤ 57)) = true ↔ badB ((s[i]?).getD 0) = true)) := by
  rw [decode_str] at hd
  obtain ⟨a, l, e1, e2, ea⟩ := drop_two h
  have hb1 := byteAt_lt s (i + 1)
  have hb2 := byteAt_lt s (i + 2)
  have hb3 := byteAt_lt s (i + 3)
  have hb0 := byteAt_lt s i
  have hbad : badB ((s[i]?).getD 0) = ((decide (48 ≤ byteAt s i) && decide (byteAt s i ≤ 57)) || decide (byteAt s i = 45)) := rfl
  rw [hbad, e1]
  have hone : byteAt s i < 128 ∧ c = byteAt s i ∧ wd = 1 ∨ 128 ≤ byteAt s i ∧ (letR (c : Int) = true → wd = 2 ∧ i + 2 ≤ s.length ∧ ((byteAt s i = 195 ∧ (byteAt s (i + 1) = 169 ∨ byteAt s (i + 1) = 184 ∨ byteAt s (i + 1) = 159)) ∨ (byteAt s i = 206 ∧ byteAt s (i + 1) = 187)) ∧ 57 < c) ∧
      (i + 2 ≤ s.length → ((byteAt s i = 195 ∧ (byteAt s (i + 1) = 169 ∨ byteAt s (i + 1) = 184 ∨ byteAt s (i + 1) = 159)) ∨ (byteAt s i = 206 ∧ byteAt s (i + 1) = 187)) → letR (c : Int) = true) := by
    generalize byteAt s i = b0 at *
    generalize byteAt s (i + 1) = b1 at *
    generalize byteAt s (i + 2) = b2 at *
    generalize byteAt s (i + 3) = b3 at *
    obtain ⟨n, hn⟩ : ∃ n, n = s.length - i := ⟨_, rfl⟩
    rw [← hn] at hd
    have hlen : ∀ k, i + k ≤ s.length ↔ k ≤ n := fun k => by omega
    rw [hlen]
    unfold Lib.decodeN at hd
    by_cases h0 : b0 < 128
    · rw [if_pos h0] at hd
      cases hd
      exact .inl ⟨h0, rfl, rfl⟩
    · refine .inr ⟨by omega, ?_, ?_⟩
      · intro hl
        simp only [letR, Bool.or_eq_true, Bool.and_eq_true, decide_eq_true_eq] at hl
        have hd' : Lib.decodeN n b0 b1 b2 b3 = (c, wd) := by unfold Lib.decodeN; exact hd
        obtain ⟨g1, g2, g3, g4, g5, g6⟩ := dec_low h0 hd' (by omega)
        clear hd hd'
        omega
      · intro hn2 hb
        rw [if_neg h0] at hd
        simp only [letR, Bool.or_eq_true, Bool.and_eq_true, decide_eq_true_eq]
        rw [if_pos (by omega)] at hd
        rw [if_pos (by omega)] at hd
        simp only [Prod.mk.injEq] at hd
        omega
  rcases hone with ⟨h0, hc, hw⟩ | ⟨h0, h1, h2⟩
  · have hp : plainB a = letR (c : Int) := by
      unfold plainB letR
      rw [ea, hc, Bool.eq_iff_iff]
      simp only [Bool.or_eq_true, Bool.and_eq_true, decide_eq_true_eq]
      omega
    constructor
    · rw [hw, ← e2]
      rw [allN_cons, hp]
      cases hl : letR (c : Int)
      · have ht : ∀ b, twoB a b = false := fun b => by
          unfold twoB
          rw [Bool.eq_false_iff]
          simp only [ne_eq, Bool.or_eq_true, Bool.and_eq_true, decide_eq_true_eq]
          omega
        cases l <;> simp [ht]
      · simp
    · intro hl
      refine ⟨by omega, by omega, ?_⟩
      simp only [letR, Bool.or_eq_true, Bool.and_eq_true, decide_eq_true_eq] at hl ⊢
      omega
  · have hp : plainB a = false := by
      unfold plainB
      rw [Bool.eq_false_iff]
      simp only [ne_eq, Bool.or_eq_true, Bool.and_eq_true, decide_eq_true_eq]
      omega
    constructor
    · rw [allN_cons, hp]
      by_cases hlen : i + 2 ≤ s.length
      · obtain ⟨b, r, f1, f2, fb⟩ := drop_two (s := s) (i := i + 1) (by omega)
        have e3 : l = b :: r := by rw [e2, f1]
        subst e3
        have ht : twoB a b = letR (c : Int) := by
          rw [Bool.eq_iff_iff]
          unfold twoB
          simp only [Bool.or_eq_true, Bool.and_eq_true, decide_eq_true_eq]
          rw [ea, fb]
          constructor
          · intro h; exact h2 hlen (by omega)
          · intro h; have := (h1 h).2.2.1; omega
        simp only [Bool.false_eq_true, if_false, ht]
        cases hl : letR (c : Int)
        · simp
        · have := (h1 hl).1
          rw [this, f2]
      · have e3 : l = [] := by rw [e2, List.drop_eq_nil_of_le (by omega)]
        subst e3
        have : letR (c : Int) = false := by
          cases hl : letR (c : Int)
          · rfl
          · exact absurd (h1 hl).2.1 hlen
        rw [this]; simp
    · intro hl
      obtain ⟨g1, g2, g3, g4⟩ := h1 hl
      refine ⟨by omega, by omega, ?_⟩
      simp only [Bool.or_eq_true, Bool.and_eq_true, decide_eq_true_eq]
      omega
/-- What is still asked, from a place on. -/
def leftN (s : List UInt8) (i : Nat) : Bool := if i = 0 then !badHead s && allN s else allN (s.drop i)
theorem leftN_step {s : List UInt8} {i : Nat} (h : i < s.length) {c wd : Nat} (hd : Utf8.decode (str s) i = (c, wd)) :
    leftN s i = (letR (c : Int) && !(decide (i = 0) && decide ((c : Int) ≤ 57)) && leftN s (i + wd)) ∧ (letR (c : Int) = true → 1 ≤ wd ∧ i + wd ≤ s.length) := by
  obtain ⟨h1, h2⟩ := allN_step h hd
  refine ⟨?_, fun hl => ⟨(h2 hl).1, (h2 hl).2.1⟩⟩
  cases hl : letR (c : Int)
  · rw [hl] at h1
    unfold leftN
    by_cases hi : i = 0
    · subst hi
      simp only [List.drop_zero] at h1
      simp [h1]
    · rw [if_neg hi, h1]; simp
  · obtain ⟨hw, hle, hbad⟩ := h2 hl
    rw [hl] at h1
    unfold leftN
    rw [if_neg (show ¬ (i + wd = 0) by omega)]
    by_cases hi : i = 0
    · subst hi
      simp only [List.drop_zero] at h1
      have hh : badHead s = badB ((s[0]?).getD 0) := by cases s <;> simp [badHead] at *
      have hb : decide ((c : Int) ≤ 57) = badB ((s[0]?).getD 0) := Bool.eq_iff_iff.2 hbad
      rw [hh, hb, h1]
      simp
    · rw [if_neg hi, h1]; simp [hi]
theorem leftN_end (s : List UInt8) (h : 1 ≤ s.length) : leftN s s.length = true := by
  unfold leftN
  rw [if_neg (by omega), List.drop_eq_nil_of_le (Nat.le_refl _)]
  rfl
theorem mayN_left {s : List UInt8} (h1 : 1 ≤ s.length) (h2 : s.length ≤ 24) : mayN s = leftN s 0 := by
  unfold mayN leftN
  simp [h1, h2]
end Go.Proofs.YtpmmapcjohmniaaGreat
