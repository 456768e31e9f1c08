/- Texts that rise. Plain. -/
import Derived.Test.YtakebdeldndaaaaGreatNames
import Derived.Lib.SlicesCompact
import GoSem.Op.String
namespace Go.Proofs.YtakebdeldndaaaaGreat
open Go

theorem tb_irrefl (a : List UInt8) : bytesBefore a a = false := WideShapes.before_irrefl (.string a)
theorem tb_trans {a b c : List UInt8} (h1 : bytesBefore a b = true) (h2 : bytesBefore b c = true) : bytesBefore a c = true := WideShapes.before_trans (a := .string a) (b := .string b) (c := .string c) h1 h2
theorem tb_asymm {a b : List UInt8} (h : bytesBefore a b = true) : bytesBefore b a = false := by
  cases hb : bytesBefore b a
  · rfl
  · have := tb_trans h hb; rw [tb_irrefl] at this; cases this
theorem tb_less : ∀ (a b : List UInt8), Op.bytesLess a b = bytesBefore a b
  | _, [] => by cases ‹List UInt8› <;> rfl
  | [], _ :: _ => rfl
  | x :: a, y :: b => by unfold Op.bytesLess bytesBefore; rw [tb_less a b]
theorem tb_total : ∀ (a b : List UInt8), a ≠ b → bytesBefore a b = true ∨ bytesBefore b a = true
  | [], [], h => absurd rfl h
  | [], _ :: _, _ => .inl rfl
  | _ :: _, [], _ => .inr rfl
  | x :: a, y :: b, h => by
    unfold bytesBefore
    simp only [Bool.or_eq_true, decide_eq_true_eq, Bool.and_eq_true, beq_iff_eq]
    by_cases e : x = y
    · subst e
      rcases tb_total a b (fun e => h (by rw [e])) with h' | h'
      · exact .inl (.inr ⟨rfl, h'⟩)
      · exact .inr (.inr ⟨rfl, h'⟩)
    · have : x.toNat ≠ y.toNat := fun e' => e (UInt8.toNat_inj.1 e')
      rcases Nat.lt_or_gt_of_ne this with h' | h'
      · exact .inl (.inl (UInt8.lt_iff_toNat_lt.2 h'))
      · exact .inr (.inl (UInt8.lt_iff_toNat_lt.2 h'))
theorem tb_ne {a b : List UInt8} (h : bytesBefore a b = true) : a ≠ b := by rintro rfl; rw [tb_irrefl] at h; cases h
/-- They rise. -/
def riseB : List (List UInt8) → Bool
  | a :: b :: l => bytesBefore a b && riseB (b :: l)
  | _ => true
theorem rise_iff : ∀ l : List (List UInt8), riseB l = true ↔ ∀ i (h : i + 1 < l.length), bytesBefore (l[i]'(by omega)) (l[i + 1]'h) = true
  | [] => by simp [riseB]
  | [a] => by simp [riseB]
  | a :: b :: l => by
    unfold riseB
    rw [Bool.and_eq_true, rise_iff (b :: l)]
    constructor
    · rintro ⟨h1, h2⟩ i hi
      match i with
      | 0 => exact h1
      | i + 1 => exact h2 i (by simpa using hi)
    · intro h
      exact ⟨h 0 (by simp), fun i hi => h (i + 1) (by simp at hi ⊢; omega)⟩
theorem rise_pairwise : ∀ {l : List (List UInt8)}, riseB l = true → l.Pairwise fun a b => bytesBefore a b = true
  | [], _ => .nil
  | [a], _ => List.pairwise_singleton _ _
  | a :: b :: l, h => by
    unfold riseB at h
    rw [Bool.and_eq_true] at h
    have ih := rise_pairwise h.2
    refine List.pairwise_cons.2 ⟨fun c hc => ?_, ih⟩
    rcases List.mem_cons.1 hc with rfl | hc
    · exact h.1
    · exact tb_trans h.1 ((List.pairwise_cons.1 ih).1 c hc)
theorem rise_false {l : List (List UInt8)} {i : Nat} (h : i + 1 < l.length) (hb : bytesBefore (l[i]'(by omega)) (l[i + 1]'h) = false) : riseB l = false := by
  cases hr : riseB l
  · rfl
  · rw [(rise_iff l).1 hr i h] at hb; cases hb
theorem rise_true {l : List (List UInt8)} (hall : ∀ i (h : i + 1 < l.length), bytesBefore (l[i]'(by omega)) (l[i + 1]'h) = true) : riseB l = true := (rise_iff l).2 hall
/-- None is behind the next one. -/
def NoneBack (l : List (List UInt8)) : Prop := ∀ i (h : i + 1 < l.length), bytesBefore (l[i + 1]'h) (l[i]'(by omega)) = false
theorem rise_compact {l : List (List UInt8)} (h : NoneBack l) : riseB l = decide ((Lib.compact l).length = l.length) := by
  have hle : (Lib.compact l).length = ((List.range l.length).filter (Lib.keeps l.toArray)).length := by
    unfold Lib.compact Lib.compactUpTo; rw [List.length_map]
  have hget : ∀ i (hi : i < l.length), (l.toArray)[i]! = l[i] := fun i hi => by simp [hi]
  rw [Bool.eq_iff_iff, decide_eq_true_eq, hle]
  constructor
  · intro hr
    rw [List.filter_eq_self.2]
    · simp
    · intro j hj
      have hj' : j < l.length := List.mem_range.1 hj
      match j, hj' with
      | 0, _ => rfl
      | j + 1, hj' =>
        refine Lib.keeps_pos ?_
        rw [hget _ hj', Nat.add_sub_cancel, hget j (by omega)]
        exact fun e => tb_ne ((rise_iff l).1 hr j hj') e.symm
  · intro hl
    refine rise_true fun i hi => ?_
    by_cases e : l[i] = l[i + 1]
    · exfalso
      have hk : Lib.keeps l.toArray (i + 1) = false := Lib.keeps_neg (by omega) (by rw [hget _ hi, Nat.add_sub_cancel, hget i (by omega)]; exact e.symm)
      have h1 : ∀ x ∈ List.range l.length, Lib.keeps l.toArray x = true := by
        have := List.length_filter_eq_length_iff.1 (show ((List.range l.length).filter (Lib.keeps l.toArray)).length = (List.range l.length).length by rw [hl]; simp)
        exact this
      rw [h1 (i + 1) (List.mem_range.2 hi)] at hk; cases hk
    · rcases tb_total _ _ e with h' | h'
      · exact h'
      · rw [h i hi] at h'; cases h'
theorem rise_back {l : List (List UInt8)} {i : Nat} (h : i + 1 < l.length) (hb : bytesBefore (l[i + 1]'h) (l[i]'(by omega)) = true) : riseB l = false := rise_false h (tb_asymm hb)
end Go.Proofs.YtakebdeldndaaaaGreat
