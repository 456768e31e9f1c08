/- What folding hangs on: sums. Plain. -/
import Derived.Test.YtakebdeldndaaaaGreatFoRun
namespace Go.Proofs.YtakebdeldndaaaaGreat
open Go
set_option linter.unusedVariables false

theorem up_ext : ∀ {D D' : Ents}, UpI D → UpI D' → (∀ p, p ∈ D ↔ p ∈ D') → D = D'
  | [], [], _, _, _ => rfl
  | [], b :: E, _, _, h => by have := (h b).2 (by simp); simp at this
  | a :: D, [], _, _, h => by have := (h a).1 (by simp); simp at this
  | a :: D, b :: E, h1, h2, h => by
    obtain ⟨g1, g1'⟩ := List.pairwise_cons.1 h1
    obtain ⟨g2, g2'⟩ := List.pairwise_cons.1 h2
    have hab : a = b := by
      rcases List.mem_cons.1 ((h a).1 (by simp)) with e | ha
      · exact e
      · rcases List.mem_cons.1 ((h b).2 (by simp)) with e | hb
        · exact e.symm
        · have x1 := g2 a ha
          have x2 := g1 b hb
          rw [tb_asymm x1] at x2; cases x2
    subst hab
    congr 1
    refine up_ext g1' g2' fun p => ⟨fun hp => ?_, fun hp => ?_⟩
    · rcases List.mem_cons.1 ((h p).1 (by simp [hp])) with e | h'
      · subst e; have := g1 p hp; rw [tb_irrefl] at this; cases this
      · exact h'
    · rcases List.mem_cons.1 ((h p).2 (by simp [hp])) with e | h'
      · subst e; have := g2 p hp; rw [tb_irrefl] at this; cases this
      · exact h'
theorem atI_of_mem {D : Ents} (h : UpI D) {p : List UInt8 × Int} (hp : p ∈ D) : atI D p.1 = p.2 := by
  obtain ⟨j, hj, rfl⟩ := List.getElem_of_mem hp
  exact up_find h j hj
theorem mem_of_atI {D : Ents} {k : Str} (h : atI D k ≠ 0) : (k, atI D k) ∈ D := by
  unfold atI at h ⊢
  cases hx : D.find? (·.1 == k) with
  | none => rw [hx] at h; exact absurd rfl h
  | some x =>
    have h1 := List.mem_of_find?_eq_some hx
    have h2 := List.find?_some hx
    have h3 : x.1 = k := by simpa using h2
    show (k, x.2) ∈ D
    rw [← h3]; exact h1
/-- Without zeros: as what it answers. -/
theorem ents_ext {D D' : Ents} (h : UpI D) (h' : UpI D') (h0 : ∀ p ∈ D, p.2 ≠ 0) (h0' : ∀ p ∈ D', p.2 ≠ 0) (he : ∀ k, atI D k = atI D' k) : D = D' := by
  refine up_ext h h' fun p => ⟨fun hp => ?_, fun hp => ?_⟩
  · have e := atI_of_mem h hp
    have := mem_of_atI (D := D') (k := p.1) (by rw [← he, e]; exact h0 p hp)
    rwa [← he, e] at this
  · have e := atI_of_mem h' hp
    have := mem_of_atI (D := D) (k := p.1) (by rw [he, e]; exact h0' p hp)
    rwa [he, e] at this
/-- What an event adds to a key. -/
def addW (d : DefV) (e : EvV) (k : Str) : Int :=
  if matchQ d.q e = true then
    if d.kind = 2 then (if k = [] then (valF e.fields d.field).getD 0 else 0)
    else if d.kind = 4 then ((e.tags.filter fun t => keyF t e.st == k).length : Int)
    else if k = [] then 1 else 0
  else 0
theorem atI_count (d : DefV) (k k' : Str) (D : Ents) : atI (countF d k D) k' = atI D k' + if k = k' then 1 else 0 := by
  unfold countF
  rw [atI_setF]
  split
  · rename_i e; rw [e]
  · omega
theorem atI_members (d : DefV) (st k : Str) : ∀ (ts : List Str) (D : Ents), atI (membersF d st ts D) k = atI D k + ((ts.filter fun t => keyF t st == k).length : Int)
  | [], D => by simp [membersF]
  | t :: ts, D => by
    have e : membersF d st (t :: ts) D = membersF d st ts (countF d (keyF t st) D) := rfl
    rw [e, atI_members d st k ts, atI_count, List.filter_cons]
    by_cases h : keyF t st = k
    · rw [if_pos h, if_pos (by simpa using h), List.length_cons]
      omega
    · rw [if_neg h, if_neg (by simpa using h)]
      omega
theorem atI_step0 {d : DefV} {e : EvV} {D : Ents} (h3 : d.kind ≠ 3) (hf : d.kind = 2 → fitsN (atI D [] + (valF e.fields d.field).getD 0) = true) (k : Str) : atI (StepF d e D).2 k = atI D k + addW d e k := by
  unfold StepF addW
  by_cases hm : matchQ d.q e = true
  rotate_left
  · simp only [if_neg hm, Int.add_zero]
  simp only [if_pos hm]
  unfold stepF
  by_cases h2 : d.kind = 2
  · simp only [if_pos h2]
    unfold sumF
    rw [if_neg (fun h => by rw [hf h2] at h; cases h.1)]
    show atI (setF _ _ _ _) k = _
    rw [atI_setF]
    by_cases h : [] = k
    · subst h; rw [if_pos rfl, if_pos rfl]
    · rw [if_neg h, if_neg (fun e => h e.symm)]; omega
  simp only [if_neg h2, if_neg h3]
  by_cases h4 : d.kind = 4
  · simp only [if_pos h4]
    exact atI_members d e.st k e.tags D
  · simp only [if_neg h4]
    rw [atI_count]
    by_cases h : [] = k
    · subst h; rfl
    · rw [if_neg h, if_neg (fun e => h e.symm)]
theorem atI_step {d : DefV} {e : EvV} {D : Ents} (h3 : d.kind ≠ 3) (hf : fitsN (atI D [] + (valF e.fields d.field).getD 0) = true) (k : Str) : atI (StepF d e D).2 k = atI D k + addW d e k := atI_step0 h3 (fun _ => hf) k
/-- Numbers of 41 bits. -/
def NumE (e : EvV) : Prop := ∀ f ∈ e.fields, -1099511627776 ≤ f.2 ∧ f.2 ≤ 1099511627776
theorem num_may {e : EvV} (h : mayEv e = 0) : NumE e := by
  unfold mayEv at h
  split at h
  · cases h
  split at h
  · cases h
  split at h
  · cases h
  split at h
  · cases h
  split at h
  · cases h
  rename_i h4
  simp only [Bool.not_eq_true, Bool.or_eq_false_iff, Bool.not_eq_false'] at h4
  intro f hf
  have := List.all_eq_true.1 h4.1.1 f hf
  unfold fitF at this
  simp only [Bool.and_eq_true, decide_eq_true_eq] at this
  omega
theorem valF_num {e : EvV} (h : NumE e) (f : Str) : -1099511627776 ≤ (valF e.fields f).getD 0 ∧ (valF e.fields f).getD 0 ≤ 1099511627776 := by
  unfold valF
  cases hx : e.fields.find? (·.1 == f) with
  | none => exact ⟨by decide, by decide⟩
  | some x => exact h x (List.mem_of_find?_eq_some hx)
def sumW (d : DefV) (k : Str) (l : List EvV) : Int := (l.map fun e => addW d e k).sum
theorem sumW_snoc (d : DefV) (k : Str) (l : List EvV) (e : EvV) : sumW d k (l ++ [e]) = sumW d k l + addW d e k := by simp [sumW]
theorem atI_fold {d : DefV} (h3 : d.kind ≠ 3) : ∀ (l : List EvV), (∀ e ∈ l, NumE e) → l.length ≤ 40 → ∀ k, atI (foldE d [] l) k = sumW d k l := fun l h hl => by
  have key : ∀ i, i ≤ l.length → (∀ k, atI (foldE d [] (l.take i)) k = sumW d k (l.take i)) ∧ (d.kind = 2 → -1099511627776 * (i : Int) ≤ sumW d [] (l.take i) ∧ sumW d [] (l.take i) ≤ 1099511627776 * (i : Int)) := fun i => by
    induction i with
    | zero => intro _; exact ⟨fun k => by simp [foldE, sumW, atI], fun _ => by simp [sumW]⟩
    | succ i ih =>
      intro hi
      have hx : i < l.length := by omega
      obtain ⟨h1, h2⟩ := ih (by omega)
      have hv := valF_num (h _ (List.getElem_mem hx)) d.field
      by_cases hk2 : d.kind = 2
      · have hb := h2 hk2
        have hf : fitsN (atI (foldE d [] (l.take i)) [] + (valF l[i].fields d.field).getD 0) = true := by
          rw [h1, fitsN_iff]; omega
        refine ⟨fun k => ?_, fun _ => ?_⟩
        · rw [foldE_take d [] hx, List.take_succ_eq_append_getElem hx, sumW_snoc, atI_step h3 hf, h1]
        · rw [List.take_succ_eq_append_getElem hx, sumW_snoc]
          have ha : addW d l[i] [] = 0 ∨ addW d l[i] [] = (valF l[i].fields d.field).getD 0 := by
            unfold addW
            by_cases hm : matchQ d.q l[i] = true
            · rw [if_pos hm, if_pos hk2, if_pos rfl]; exact .inr rfl
            · rw [if_neg hm]; exact .inl rfl
          rcases ha with ha | ha <;> rw [ha] <;> omega
      · refine ⟨fun k => ?_, fun h => absurd h hk2⟩
        rw [foldE_take d [] hx, List.take_succ_eq_append_getElem hx, sumW_snoc, ← h1]
        exact atI_step0 h3 (fun h => absurd h hk2) k
  have := (key l.length (Nat.le_refl _)).1
  rwa [List.take_length] at this
theorem sumW_reverse (d : DefV) (k : Str) (l : List EvV) : sumW d k l.reverse = sumW d k l := by
  induction l with
  | nil => rfl
  | cons e l ih => rw [List.reverse_cons, sumW_snoc, ih]; simp [sumW]; omega
theorem fold_reverse {d : DefV} (h3 : d.kind ≠ 3) {l : List EvV} (h : ∀ e ∈ l, NumE e) (hl : l.length ≤ 40) (hs : ∀ e ∈ l, SmallE e) (h1 : UpI (foldE d [] l)) (h2 : UpI (foldE d [] l.reverse)) : foldE d [] l = foldE d [] l.reverse := by
  refine ents_ext h1 h2 (fun p hp => ((okD_fold l hs (by omega)).1 p hp).2.1 h3) (fun p hp => ((okD_fold l.reverse (fun e he => hs e (List.mem_reverse.1 he)) (by rw [List.length_reverse]; omega)).1 p hp).2.1 h3) fun k => ?_
  rw [atI_fold h3 l h hl, atI_fold h3 l.reverse (fun e he => h e (List.mem_reverse.1 he)) (by rw [List.length_reverse]; exact hl), sumW_reverse]
end Go.Proofs.YtakebdeldndaaaaGreat
