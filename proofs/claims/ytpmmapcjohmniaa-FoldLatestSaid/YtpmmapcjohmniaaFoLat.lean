/- What a Latest of all events comes to. Plain. -/
import Derived.Test.YtpmmapcjohmniaaFoCnt
namespace Go.Proofs.Ytpmmapcjohmniaa
open Go
set_option linter.unusedVariables false

theorem find_set3 {d : DefV} (h3 : d.kind = 3) (k k' : Str) (n : Int) (D : Ents) : (setF d k n D).find? (·.1 == k') = if k = k' then some (k, n) else D.find? (·.1 == k') := by
  unfold setF
  rw [if_neg fun h => h.2 h3]
  unfold putI
  rw [find_insI k' (k, n) (delI k D) fun p hp => by
    have := (List.mem_filter.1 hp).2
    simpa using this, find_delI]
  by_cases h : k = k'
  · subst h; simp
  · simp [h]
/-- The last number that a stream's events had. -/
def nextW (st : Str) (o : Option Int) (e : EvV) : Option Int := if (valF e.fields [110]).isSome = true ∧ e.st = st then valF e.fields [110] else o
def lastW (st : Str) (l : List EvV) : Option Int := l.foldl (nextW st) none
theorem lastW_take (st : Str) {l : List EvV} {j : Nat} (h : j < l.length) : lastW st (l.take (j + 1)) = nextW st (lastW st (l.take j)) l[j] := by
  unfold lastW
  rw [List.take_succ_eq_append_getElem h, List.foldl_append]; rfl
theorem next_yes {st : Str} {o : Option Int} {e : EvV} (hv : (valF e.fields [110]).isSome = true) (hs : e.st = st) : nextW st o e = some ((valF e.fields [110]).getD 0) := by
  unfold nextW
  rw [if_pos ⟨hv, hs⟩]
  cases h : valF e.fields [110] with
  | none => rw [h] at hv; cases hv
  | some v => rfl
theorem next_no {st : Str} {o : Option Int} {e : EvV} (h : (valF e.fields [110]).isSome = false ∨ e.st ≠ st) : nextW st o e = o := by
  unfold nextW
  rw [if_neg]
  rintro ⟨h1, h2⟩
  rcases h with h | h
  · rw [h1] at h; cases h
  · exact h h2
theorem step_L (e : EvV) (D : Ents) : (StepF dL e D).2 = latestF dL e D := by
  unfold StepF
  rw [if_pos (allQ (d := dL) rfl e)]
  rfl
theorem lat_fold (st : Str) (l : List EvV) : (foldE dL [] l).find? (·.1 == st) = (lastW st l).map fun v => (st, v) := by
  have key : ∀ i, i ≤ l.length → (foldE dL [] (l.take i)).find? (·.1 == st) = (lastW st (l.take i)).map fun v => (st, v) := fun i => by
    induction i with
    | zero => intro _; simp [foldE, lastW]
    | succ i ih =>
      intro hi
      have hx : i < l.length := by omega
      rw [foldE_take dL [] hx, step_L, lastW_take st hx]
      unfold latestF nextW
      rw [show dL.field = [110] from rfl]
      cases hv : valF l[i].fields [110] with
      | none => simp only [Option.isSome_none, Bool.false_eq_true, false_and, if_false]; exact ih (by omega)
      | some v =>
        show (setF dL l[i].st v _).find? _ = _
        rw [find_set3 rfl]
        by_cases hs : l[i].st = st
        · rw [if_pos hs, if_pos ⟨rfl, hs⟩, hs]; rfl
        · rw [if_neg hs, if_neg fun h => hs h.2]; exact ih (by omega)
  have := key l.length (Nat.le_refl _)
  rwa [List.take_length] at this
theorem lat_at (st : Str) (l : List EvV) : atI (foldE dL [] l) st = (lastW st l).getD 0 := by
  unfold atI
  rw [lat_fold]
  cases lastW st l <;> rfl
theorem lat_any (st : Str) (l : List EvV) : (foldE dL [] l).any (fun p => p.1 == st) = (lastW st l).isSome := by
  have h := lat_fold st l
  have e : (foldE dL [] l).any (fun p => p.1 == st) = ((foldE dL [] l).find? (·.1 == st)).isSome := by
    rw [Bool.eq_iff_iff, List.find?_isSome, List.any_eq_true]
  rw [e, h]
  cases lastW st l <;> rfl
theorem any_take (st : Str) {D : Ents} {j : Nat} (h : j < D.length) : (D.take (j + 1)).any (fun p => p.1 == st) = ((D.take j).any (fun p => p.1 == st) || (D[j].1 == st)) := by
  rw [List.take_succ_eq_append_getElem h, List.any_append]; simp
theorem lat_same {st : Str} {l : List EvV} (hu : UpI (foldE dL [] l)) {j : Nat} (hj : j < (foldE dL [] l).length) (h : (foldE dL [] l)[j].1 = st) : (foldE dL [] l)[j].2 = (lastW st l).getD 0 := by
  have := up_find hu j hj
  rw [h, lat_at] at this
  exact this.symm
end Go.Proofs.Ytpmmapcjohmniaa
