/- What a count, a sum and members of all events come to. Plain. -/
import Derived.Test.YtpmmapcjohmniaaFoOrd
import Derived.Test.YtpmmapcjohmniaaFoMath
namespace Go.Proofs.Ytpmmapcjohmniaa
open Go
set_option linter.unusedVariables false

def dC : DefV := ⟨1, [], [allC]⟩
def dM : DefV := ⟨4, [], [allC]⟩
def dL : DefV := ⟨3, [110], [allC]⟩
theorem dC_may : mayDef dC = 0 := by decide
theorem dM_may : mayDef dM = 0 := by decide
theorem dL_may : mayDef dL = 0 := by decide
theorem allN_no32 : ∀ (n : Nat) (l : List UInt8), l.length ≤ n → allN l = true → (32 : UInt8) ∉ l
  | _, [], _, _ => by simp
  | 0, _ :: _, h, _ => by simp at h
  | n + 1, a :: l, h, ha => by
    rw [allN_cons] at ha
    simp only [List.length_cons] at h
    intro hm
    split at ha
    · rename_i hp
      rcases List.mem_cons.1 hm with e | hm
      · rw [← e] at hp; revert hp; decide
      · exact allN_no32 n l (by omega) ha hm
    · split at ha
      · cases ha
      · rename_i b r
        rw [Bool.and_eq_true] at ha
        obtain ⟨h2, h3⟩ := ha
        rcases List.mem_cons.1 hm with e | hm
        · rw [← e] at h2; simp [twoB] at h2
        · rcases List.mem_cons.1 hm with e | hm
          · rw [← e] at h2; simp [twoB] at h2
          · exact allN_no32 n r (by simp only [List.length_cons] at h; omega) h3 hm
theorem mayN_no32 {s : Str} (h : mayN s = true) : (32 : UInt8) ∉ s := by
  unfold mayN at h
  rw [Bool.and_eq_true] at h
  exact allN_no32 s.length s (Nat.le_refl _) h.2
theorem tagN_no32 {t : Str} (h : tagN t = true) : (32 : UInt8) ∉ t := by
  unfold tagN partsT at h
  split at h
  · cases h
  · rename_i i hi
    split at h
    rotate_left
    · cases h
    rename_i hb
    rw [Bool.and_eq_true] at hb
    obtain ⟨hk, hp, -⟩ := List.findIdx?_eq_some_iff_getElem.1 hi
    have h58 : t[i] = 58 := by simpa using hp
    intro hm
    have hm2 : (32 : UInt8) ∈ t.take i ++ t[i] :: t.drop (i + 1) := by rw [← List.drop_eq_getElem_cons hk, List.take_append_drop]; exact hm
    rcases List.mem_append.1 hm2 with h | h
    · exact mayN_no32 hb.1 h
    · rcases List.mem_cons.1 h with h | h
      · rw [h58] at h; revert h; decide
      · exact mayN_no32 hb.2 h
theorem sep_inj : ∀ {t t' s s' : Str}, (32 : UInt8) ∉ t → (32 : UInt8) ∉ t' → t ++ 32 :: s = t' ++ 32 :: s' → t = t' ∧ s = s'
  | [], [], s, s', _, _, h => by simp at h; exact ⟨rfl, h⟩
  | [], b :: t', s, s', _, h2, h => by
    simp only [List.nil_append, List.cons_append, List.cons.injEq] at h
    exact absurd (by rw [h.1]; simp) h2
  | a :: t, [], s, s', h1, _, h => by
    simp only [List.nil_append, List.cons_append, List.cons.injEq] at h
    exact absurd (by rw [h.1]; simp) h1
  | a :: t, b :: t', s, s', h1, h2, h => by
    simp only [List.cons_append, List.cons.injEq] at h
    obtain ⟨e1, e2⟩ := sep_inj (fun hm => h1 (List.mem_cons_of_mem _ hm)) (fun hm => h2 (List.mem_cons_of_mem _ hm)) h.2
    exact ⟨by rw [h.1, e1], e2⟩
theorem key_inj {t s t' s' : Str} (h1 : (32 : UInt8) ∉ t) (h2 : (32 : UInt8) ∉ s) (h : keyF t s = keyF t' s') : t = t' ∧ s = s' := by
  unfold keyF at h
  have hc := congrArg (List.count (32 : UInt8)) h
  simp only [List.count_append, List.count_eq_zero_of_not_mem h1, List.count_eq_zero_of_not_mem h2] at hc
  have h3 : List.count (32 : UInt8) [32] = 1 := by decide
  rw [h3] at hc
  have h4 : (32 : UInt8) ∉ t' := List.count_eq_zero.1 (by omega)
  rw [List.append_assoc, List.append_assoc] at h
  exact sep_inj h1 h4 h
theorem key_tag {t t' s : Str} (h : keyF t s = keyF t' s) : t = t' := by
  unfold keyF at h
  exact List.append_cancel_right (List.append_cancel_right h)
/-- What rises holds a text once. -/
theorem count_tag (tag : Str) : ∀ {ts : List Str}, (ts.Pairwise fun a b => bytesBefore a b = true) → (ts.filter (· == tag)).length = if hasT ts tag = true then 1 else 0
  | [], _ => rfl
  | t :: ts, h => by
    obtain ⟨h1, h2⟩ := List.pairwise_cons.1 h
    rw [List.filter_cons]
    by_cases e : t = tag
    · subst e
      have hn : ts.filter (· == t) = [] := List.filter_eq_nil_iff.2 fun b hb hbt => by
        have := h1 b hb
        rw [show b = t by simpa using hbt, tb_irrefl] at this
        cases this
      rw [if_pos (by simp), hn]
      simp [hasT]
    · have h3 : (tag == t) = false := beq_eq_false_iff_ne.2 fun h => e h.symm
      have h4 : hasT (t :: ts) tag = hasT ts tag := by simp only [hasT, List.any_cons, h3, Bool.false_or]
      rw [if_neg (by simpa using e), count_tag tag h2, h4]
theorem may_parts {e : EvV} (h : mayEv e = 0) : mayN e.st = true ∧ (∀ t ∈ e.tags, tagN t = true) ∧ riseB e.tags = true := by
  unfold mayEv at h
  split at h
  · cases h
  rename_i h1
  split at h
  · cases h
  split at h
  · cases h
  split at h
  · cases h
  rename_i h3
  split at h
  · cases h
  rename_i h4
  simp only [Bool.not_eq_true, Bool.or_eq_false_iff, Bool.not_eq_false'] at h1 h3 h4
  exact ⟨h1.1, fun t ht => List.all_eq_true.1 h3 t ht, h4.1.2⟩
theorem allQ {d : DefV} (h : d.q = [allC]) (e : EvV) : matchQ d.q e = true := by rw [h]; exact matchQ_all e
theorem add_count (e : EvV) : addW dC e [] = 1 := by
  unfold addW
  rw [if_pos (allQ (d := dC) rfl e), if_neg (by decide), if_neg (by decide), if_pos rfl]
theorem add_sum (e : EvV) : addW exD e [] = (valF e.fields [110]).getD 0 := by
  unfold addW
  rw [if_pos (allQ (d := exD) rfl e), if_pos (by decide), if_pos rfl]
  rfl
theorem add_members {e : EvV} (h : mayEv e = 0) (tag st : Str) : addW dM e (keyF tag st) = if (hasT e.tags tag && (e.st == st)) = true then 1 else 0 := by
  obtain ⟨h1, h2, h3⟩ := may_parts h
  unfold addW
  rw [if_pos (allQ (d := dM) rfl e), if_neg (by decide), if_pos (by decide)]
  by_cases hs : e.st = st
  · subst hs
    have hf : (e.tags.filter fun t => keyF t e.st == keyF tag e.st) = e.tags.filter (· == tag) := List.filter_congr fun t _ => by
      by_cases ht : t = tag
      · subst ht; simp
      · rw [beq_eq_false_iff_ne.2 ht, beq_eq_false_iff_ne.2 fun h => ht (key_tag h)]
    rw [hf, count_tag tag (rise_pairwise h3)]
    simp only [beq_self_eq_true, Bool.and_true]
    split <;> rfl
  · have hf : (e.tags.filter fun t => keyF t e.st == keyF tag st) = [] := List.filter_eq_nil_iff.2 fun t ht hb => hs (key_inj (tagN_no32 (h2 t ht)) (mayN_no32 h1) (by simpa using hb)).2
    rw [hf, beq_eq_false_iff_ne.2 hs]
    simp
theorem sumW_take (d : DefV) (k : Str) {l : List EvV} {j : Nat} (h : j < l.length) : sumW d k (l.take (j + 1)) = sumW d k (l.take j) + addW d l[j] k := by
  rw [List.take_succ_eq_append_getElem h, sumW_snoc]
theorem sumW_count (l : List EvV) : sumW dC [] l = (l.length : Int) := by
  induction l with
  | nil => rfl
  | cons e l ih =>
    have : sumW dC [] (e :: l) = addW dC e [] + sumW dC [] l := by simp [sumW]
    rw [this, ih, add_count, List.length_cons]; omega
theorem sumW_bound {B : Int} (d : DefV) (k : Str) : ∀ (l : List EvV), (∀ e ∈ l, -B ≤ addW d e k ∧ addW d e k ≤ B) → -(B * (l.length : Int)) ≤ sumW d k l ∧ sumW d k l ≤ B * (l.length : Int)
  | [], _ => by simp [sumW]
  | e :: l, h => by
    have h1 := h e (by simp)
    have h2 := sumW_bound d k l fun e he => h e (List.mem_cons_of_mem _ he)
    have : sumW d k (e :: l) = addW d e k + sumW d k l := by simp [sumW]
    rw [this, List.length_cons]
    have e2 : B * ((l.length + 1 : Nat) : Int) = B * (l.length : Int) + B := by rw [Int.natCast_add, Int.mul_add]; simp
    rw [e2]; omega
theorem sum_bound {l : List EvV} (h : ∀ e ∈ l, NumE e) (hl : l.length ≤ 40) (j : Nat) : -43980465111040 ≤ sumW exD [] (l.take j) ∧ sumW exD [] (l.take j) ≤ 43980465111040 := by
  have := sumW_bound (B := 1099511627776) exD [] (l.take j) fun e he => by
    rw [add_sum]
    exact valF_num (h e (List.mem_of_mem_take he)) [110]
  rw [List.length_take] at this
  have h2 : ((min j l.length : Nat) : Int) ≤ 40 := by omega
  generalize ((min j l.length : Nat) : Int) = x at *
  omega
theorem many_bound {l : List EvV} (h : ∀ e ∈ l, mayEv e = 0) (hl : l.length ≤ 40) (tag st : Str) (j : Nat) : -40 ≤ sumW dM (keyF tag st) (l.take j) ∧ sumW dM (keyF tag st) (l.take j) ≤ 40 := by
  have := sumW_bound (B := 1) dM (keyF tag st) (l.take j) fun e he => by
    rw [add_members (h e (List.mem_of_mem_take he))]
    split <;> decide
  rw [List.length_take] at this
  have h2 : ((min j l.length : Nat) : Int) ≤ 40 := by omega
  generalize ((min j l.length : Nat) : Int) = x at *
  omega
end Go.Proofs.Ytpmmapcjohmniaa
