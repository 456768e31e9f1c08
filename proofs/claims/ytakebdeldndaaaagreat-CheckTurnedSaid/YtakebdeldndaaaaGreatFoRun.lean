/- Rows of events folded. -/
import Derived.Test.YtakebdeldndaaaaGreatDefAt
namespace Go.Proofs.YtakebdeldndaaaaGreat
open Go Go.RowKit
set_option linter.unusedSimpArgs false
set_option linter.unusedVariables false

theorem mayN_len {s : Str} (h : mayN s = true) : s.length ≤ 24 := by
  unfold mayN at h
  simp only [Bool.and_eq_true, decide_eq_true_eq] at h
  exact h.1.1.2
theorem tagN_len {s : Str} (h : tagN s = true) : s.length ≤ 1000 := by
  unfold tagN partsT at h
  split at h
  · cases h
  · rename_i i hi
    split at h
    · rename_i hb
      rw [Bool.and_eq_true] at hb
      have h1 := mayN_len hb.1
      have h2 := mayN_len hb.2
      rw [List.length_take] at h1
      rw [List.length_drop] at h2
      omega
    · cases h
theorem small_may {e : EvV} (h : mayEv e = 0) : SmallE e := by
  unfold mayEv at h
  split at h
  · cases h
  rename_i h1
  split at h
  · cases h
  rename_i h2
  split at h
  · cases h
  split at h
  · cases h
  rename_i h3
  split at h
  · cases h
  rename_i h4
  simp only [Bool.not_eq_true, Bool.or_eq_false_iff, Bool.not_eq_false', decide_eq_false_iff_not] at h1 h2 h3 h4
  refine ⟨by have := mayN_len h1.1; omega, fun t ht => tagN_len (List.all_eq_true.1 h3 t ht), by omega, fun f hf => ?_⟩
  have := List.all_eq_true.1 h4.1.1 f hf
  unfold fitF at this
  simp only [Bool.and_eq_true, decide_eq_true_eq] at this
  omega
theorem few_may {l : List EvV} {e : EvV} (h : e ∈ fewF l) : mayEv e = 0 := by
  have := (List.mem_filter.1 h).2
  simpa using this
theorem few_len (l : List EvV) : (fewF l).length ≤ 40 := by
  have h1 := List.length_filter_le (fun e => mayEv e == 0) (l.take 40)
  rw [List.length_take] at h1
  unfold fewF
  omega
/-- What a row of events comes to. -/
def foldE (d : DefV) (D : Ents) (l : List EvV) : Ents := l.foldl (fun D e => (StepF d e D).2) D
theorem foldE_snoc (d : DefV) (D : Ents) (l : List EvV) (e : EvV) : foldE d D (l ++ [e]) = (StepF d e (foldE d D l)).2 := by unfold foldE; rw [List.foldl_append]; rfl
theorem foldE_take (d : DefV) (D : Ents) {l : List EvV} {k : Nat} (hk : k < l.length) : foldE d D (l.take (k + 1)) = (StepF d l[k] (foldE d D (l.take k))).2 := by
  rw [List.take_succ_eq_append_getElem hk, foldE_snoc]
theorem foldE_append (d : DefV) (D : Ents) (l r : List EvV) : foldE d D (l ++ r) = foldE d (foldE d D l) r := by unfold foldE; rw [List.foldl_append]
/-- What numbers may be. -/
def OkD (d : DefV) (B : Nat) (D : Ents) : Prop := ∀ p ∈ D, fitsN p.2 = true ∧ (d.kind ≠ 3 → p.2 ≠ 0) ∧ (d.kind ≠ 2 → d.kind ≠ 3 → 0 < p.2 ∧ p.2 ≤ (B : Int))
theorem atI_mem {D : Ents} {k : Str} : atI D k = 0 ∨ ∃ p ∈ D, p.2 = atI D k := by
  unfold atI
  cases hx : D.find? (·.1 == k) with
  | none => exact .inl rfl
  | some x => exact .inr ⟨x, List.mem_of_find?_eq_some hx, rfl⟩
theorem mem_set0 {d : DefV} {k : Str} {n : Int} {D : Ents} {p : List UInt8 × Int} (h : p ∈ setF d k n D) : (p = (k, n) ∧ (n ≠ 0 ∨ d.kind = 3)) ∨ p ∈ D := by
  unfold setF putI delI at h
  split at h
  · exact .inr (List.mem_filter.1 h).1
  · rename_i hn
    rcases mem_insI _ _ _ h with h | h
    · exact .inl ⟨h, by rcases Classical.em (n = 0) with e | e; exact .inr (Classical.byContradiction fun h3 => hn ⟨e, h3⟩); exact .inl e⟩
    · exact .inr (List.mem_filter.1 h).1
theorem OkD.mono {d : DefV} {B B' : Nat} {D : Ents} (h : OkD d B D) (hb : B ≤ B') : OkD d B' D := fun p hp => ⟨(h p hp).1, (h p hp).2.1, fun h2 h3 => by have := (h p hp).2.2 h2 h3; omega⟩
theorem OkD.count {d : DefV} {B : Nat} {D : Ents} (h : OkD d B D) (h2 : d.kind ≠ 2) (h3 : d.kind ≠ 3) (hB : B + 1 ≤ 1125899906842624) (k : Str) : OkD d (B + 1) (countF d k D) := by
  intro p hp
  rcases mem_set0 hp with ⟨rfl, -⟩ | hp
  · have h0 : 0 ≤ atI D k ∧ atI D k ≤ (B : Int) := by
      rcases atI_mem (D := D) (k := k) with e | ⟨x, hx, e⟩
      · rw [e]; omega
      · rw [← e]; have := (h x hx).2.2 h2 h3; omega
    refine ⟨(fitsN_iff _).2 ⟨by show (-1125899906842624 : Int) ≤ atI D k + 1; omega, by show atI D k + 1 ≤ 1125899906842624; omega⟩, fun _ => by show atI D k + 1 ≠ 0; omega, fun _ _ => ⟨by show 0 < atI D k + 1; omega, by show atI D k + 1 ≤ _; omega⟩⟩
  · exact (h.mono (Nat.le_succ B)) p hp
theorem OkD.members {d : DefV} {st : Str} (h2 : d.kind ≠ 2) (h3 : d.kind ≠ 3) : ∀ (ts : List Str) {B : Nat} {D : Ents}, OkD d B D → B + ts.length ≤ 1125899906842624 → OkD d (B + ts.length) (membersF d st ts D)
  | [], B, D, h, _ => h
  | t :: ts, B, D, h, hB => by
    simp only [List.length_cons] at hB ⊢
    have := OkD.members (st := st) h2 h3 ts (h.count h2 h3 (by omega) (keyF t st)) (by omega)
    exact this.mono (by omega)
theorem OkD.step {d : DefV} {B : Nat} {D : Ents} {e : EvV} (h : OkD d B D) (he : SmallE e) (hB : B + 1000 ≤ 1125899906842624) : OkD d (B + 1000) (StepF d e D).2 := by
  unfold StepF
  split
  rotate_left
  · exact h.mono (by omega)
  unfold stepF
  split
  · rename_i h2
    unfold sumF
    split
    · exact h.mono (by omega)
    · rename_i hs
      intro p hp
      rcases mem_set0 hp with ⟨rfl, hn⟩ | hp
      · have hfit : fitsN (atI D [] + (valF e.fields d.field).getD 0) = true := by
          by_cases h0 : (valF e.fields d.field).getD 0 = 0
          · rw [h0, Int.add_zero]
            rcases atI_mem (D := D) (k := []) with e | ⟨x, hx, e⟩
            · rw [e]; rfl
            · rw [← e]; exact (h x hx).1
          · cases hf : fitsN (atI D [] + (valF e.fields d.field).getD 0)
            · exact absurd ⟨hf, h0⟩ hs
            · rfl
        exact ⟨hfit, fun h3 => hn.elim id fun h => absurd h h3, fun h => absurd h2 h⟩
      · exact (h.mono (Nat.le_add_right B 1000)) p hp
  split
  · rename_i h3
    show OkD d (B + 1000) (latestF d e D)
    unfold latestF
    split
    · rename_i v hv
      intro p hp
      rcases mem_set0 hp with ⟨rfl, hn⟩ | hp
      · have := valF_small he d.field
        rw [hv] at this
        exact ⟨(fitsN_iff _).2 this, fun h => absurd h3 h, fun _ h => absurd h3 h⟩
      · exact (h.mono (Nat.le_add_right B 1000)) p hp
    · exact h.mono (by omega)
  rename_i h2 h3
  split
  · have := he.many
    exact (OkD.members (st := e.st) h2 h3 e.tags h (by omega)).mono (by omega)
  · exact (h.count h2 h3 (by omega) []).mono (by omega)
theorem length_step (d : DefV) (e : EvV) (D : Ents) (he : SmallE e) : (StepF d e D).2.length ≤ D.length + 1000 := by
  have hm := he.many
  unfold StepF
  split
  rotate_left
  · exact Nat.le_add_right _ _
  unfold stepF
  split
  · unfold sumF
    split
    · exact Nat.le_add_right _ _
    · have := length_setF d [] (atI D [] + (valF e.fields d.field).getD 0) D
      show (setF _ _ _ _).length ≤ _
      omega
  split
  · show (latestF d e D).length ≤ _
    unfold latestF
    split
    · have := length_setF d e.st ‹Int› D
      omega
    · exact Nat.le_add_right _ _
  split
  · have := length_membersF (d := d) (st := e.st) e.tags D
    show (membersF _ _ _ _).length ≤ _
    omega
  · have := length_setF d [] (atI D [] + 1) D
    show (countF _ _ _).length ≤ _
    unfold countF
    omega
theorem okD_fold {d : DefV} : ∀ (l : List EvV), (∀ e ∈ l, SmallE e) → l.length ≤ 1000 → OkD d (1000 * l.length) (foldE d [] l) ∧ (foldE d [] l).length ≤ 1000 * l.length := fun l => by
  intro h hl
  have key : ∀ k, k ≤ l.length → OkD d (1000 * k) (foldE d [] (l.take k)) ∧ (foldE d [] (l.take k)).length ≤ 1000 * k := fun k => by
    induction k with
    | zero => intro _; exact ⟨fun p hp => by simp [foldE] at hp, by simp [foldE]⟩
    | succ k ih =>
      intro hk
      have hkx : k < l.length := by omega
      obtain ⟨h1, h2⟩ := ih (by omega)
      have hs := h _ (List.getElem_mem hkx)
      rw [foldE_take d [] hkx]
      refine ⟨(h1.step hs (by omega)).mono (by omega), ?_⟩
      have := length_step d l[k] (foldE d [] (l.take k)) hs
      omega
  have := key l.length (Nat.le_refl _)
  rwa [List.take_length] at this
theorem OkD.fit {d : DefV} {B : Nat} {D : Ents} (h : OkD d B D) : FitB 1125899906842624 D := fun p hp => (fitsN_iff _).1 (h p hp).1
theorem OkD.loads {d : DefV} {B : Nat} {D : Ents} (h : OkD d B D) (hu : UpI D) : okE d D = true := by
  refine okE_yes fun j hj => ?_
  unfold badE
  obtain ⟨h1, h2, -⟩ := h _ (List.getElem_mem hj)
  rw [gE_at hj, h1]
  simp only [Bool.not_true, Bool.or_false, Bool.or_eq_false_iff, Bool.and_eq_false_iff, decide_eq_false_iff_not, Bool.not_eq_false']
  refine ⟨?_, ?_⟩
  · by_cases h0 : 0 < j
    · right
      rw [gE_at (show j - 1 < D.length by omega)]
      exact (List.pairwise_iff_getElem.1 hu) (j - 1) j (by omega) hj (by omega)
    · exact .inl h0
  · by_cases h3 : d.kind = 3
    · right; simpa using h3
    · exact .inl (h2 h3)
/-- A row of one's own lies outside what turns. -/
theorem ownK_out {α : Type} {R : Rep α} {e : TypeId} {K S : Nat → Prop} {w : World} {base : Nat} {v : Value} {xs : List α} (h : OwnK R e K w base v xs) (hK : ∀ k, K k → k < w.heap.size ∧ ¬ S k) (hS : ∀ k, S k → k < base) :
    ∃ A c, v = .slice A xs.length c ∧ SlR R w (Out S w) A xs.length c xs := by
  obtain ⟨A, c, cs, e1, h1, h2, h3, h4⟩ := h.read
  refine ⟨A, c, e1, rfl, h1, h2, cs, h3.mono fun k hk => hK k hk, ?_⟩
  rcases h4 with h4 | ⟨b, o, e2, h4⟩
  · exact .inl h4
  · by_cases h0 : 0 < xs.length
    · obtain ⟨g, c', e3, -, hg1, hg2, -⟩ := h.at_ h0
      rw [e1] at e3
      simp only [Value.slice.injEq] at e3
      rw [e2] at e3
      simp only [Option.some.injEq, Addr.mk.injEq] at e3
      obtain ⟨⟨rfl, -, -⟩, -⟩ := e3
      exact .inr ⟨b, o, e2, ⟨hg2, fun h => by have := hS b h; omega⟩, h4⟩
    · have : xs = [] := List.length_eq_zero_iff.1 (by omega)
      subst this
      exact .inl h3
/-- An event of a row, outside what turns. -/
theorem evS_at {w : World} {S : Nat → Prop} {A : Option Addr} {n c : Nat} {xs : List EvV} (h : SlR REv w (Out S w) A n c xs) (i : Nat) (hi : i < xs.length) :
    ∃ b o T n1 a U n2 u, A = some ⟨b, o, none⟩ ∧ w.cell? ⟨b, o + i * 4, none⟩ = some (.string (str (xs[i]'hi).st)) ∧ w.cell? ⟨b, o + i * 4 + 1, none⟩ = some (.string (str (xs[i]'hi).ty)) ∧ w.cell? ⟨b, o + i * 4 + 2, none⟩ = some (.slice T n1 a) ∧ w.cell? ⟨b, o + i * 4 + 3, none⟩ = some (.slice U n2 u) ∧
      EvS w S T n1 a U n2 u (xs[i]'hi) := by
  obtain ⟨b, o, T, a, U, u, rfl, -, f0, f1, f2, f3, s1, s2, ht, hu⟩ := ev_at h i hi
  exact ⟨b, o, T, _, a, U, _, u, rfl, f0, f1, f2, f3, s1, s2, ht, hu⟩
end Go.Proofs.YtakebdeldndaaaaGreat
