/- Strings in the order of their bytes: what the library's sort tells of names that rise. Plain. -/
import Derived.Sort.KeysCollected
namespace Go.Proofs.YtakebdeldndaaaaGreat
open Go

theorem lt_of_bb : ∀ (a b : List UInt8), bytesBefore a b = true → a < b
  | [], [], h => by cases h
  | [], _ :: _, _ => List.nil_lt_cons _ _
  | _ :: _, [], h => by cases h
  | x :: a, y :: b, h => by
    unfold bytesBefore at h
    simp only [Bool.or_eq_true, decide_eq_true_eq, Bool.and_eq_true, beq_iff_eq] at h
    rw [List.cons_lt_cons_iff]
    rcases h with h | ⟨rfl, h⟩
    · exact .inl h
    · exact .inr ⟨rfl, lt_of_bb a b h⟩
theorem bb_of_lt : ∀ (a b : List UInt8), a < b → bytesBefore a b = true
  | [], [], h => absurd h (List.lt_irrefl _)
  | [], _ :: _, _ => rfl
  | _ :: _, [], h => absurd h (List.not_lt_nil _)
  | x :: a, y :: b, h => by
    rw [List.cons_lt_cons_iff] at h
    unfold bytesBefore
    simp only [Bool.or_eq_true, decide_eq_true_eq, Bool.and_eq_true, beq_iff_eq]
    rcases h with h | ⟨rfl, h⟩
    · exact .inl h
    · exact .inr ⟨rfl, bb_of_lt a b h⟩
theorem le_of_bb {a b : List UInt8} (h : bytesBefore a b = true) : a ≤ b := List.not_lt.1 (List.lt_asymm (lt_of_bb a b h))
/-- Names that rise, in whatever order, are sorted to themselves. -/
theorem sort_names {ss names : List (List UInt8)} (hp : ss.Perm names) (hs : names.Pairwise fun a b => bytesBefore a b = true) : ss.mergeSort (fun x y => decide (x ≤ y)) = names := by
  have h1 : ss.mergeSort leB = names.mergeSort leB := mergeSort_of_perm hp
  refine h1.trans (List.mergeSort_of_pairwise ?_)
  exact hs.imp fun h => decide_eq_true (le_of_bb h)
end Go.Proofs.YtakebdeldndaaaaGreat
