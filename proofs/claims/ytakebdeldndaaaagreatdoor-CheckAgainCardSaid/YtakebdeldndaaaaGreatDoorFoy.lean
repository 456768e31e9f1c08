/- Several texts of this claim's, one behind the other. -/
import Derived.Test.YtakebdeldndaaaaGreatDoorFoz
import Derived.Test.YtakebdeldndaaaaGreatDoorEvx
import Derived.Deep.DeepCutAuto
import Derived.Test.YtakebdeldndaaaaGreatDoorFoa
import Derived.Shelf.SlMaps.Clone
/- What folding comes to. Plain. -/
namespace Go.Proofs.YtakebdeldndaaaaGreatDoor
open Go
set_option linter.unusedVariables false

theorem atI_setF (d : DefV) (k k' : Str) (n : Int) (D : Ents) : atI (setF d k n D) k' = if k = k' then n else atI D k' := by
  unfold setF
  split
  · rename_i h
    rw [atI_del]
    split
    · exact h.1.symm
    · rfl
  · exact atI_put k k' n D
theorem fitsN_iff (n : Int) : fitsN n = true ↔ -1125899906842624 ≤ n ∧ n ≤ 1125899906842624 := by unfold fitsN; exact decide_eq_true_iff
end Go.Proofs.YtakebdeldndaaaaGreatDoor

/- A definition that is handed over, cut to eight clauses; rows that are loaded stay. -/
namespace Go.Proofs.YtakebdeldndaaaaGreatDoor
open Go Go.RowKit
set_option linter.unusedSimpArgs false
set_option linter.unusedVariables false

structure DefAt (w : World) (d : DefV) (A : Option Addr) (c : Nat) (wx : World) : Prop where
  box : DefBox w.heap.size d A d.q.length c wx
  q : SlR RCl wx (· < w.heap.size) A d.q.length c d.q
  ext : Ext w wx
def cut8 (d : DefV) : DefV := ⟨d.kind, d.field, d.q.take 8⟩
theorem DefAt.short {w w1 : World} {d : DefV} {A : Option Addr} {c : Nat} (hb : DefBox w.heap.size d A d.q.length c w1) (hq : SlR RCl w (· < w.heap.size) A d.q.length c d.q) (hE : Ext w w1) (h : d.q.length ≤ 8) : DefAt w (cut8 d) A c w1 := by
  have e : cut8 d = d := by unfold cut8; rw [List.take_of_length_le h]
  rw [e]
  exact ⟨hb, hq.ext fun k hk => hE.block k hk, hE⟩
theorem DefBox.free {bx : Nat} {d : DefV} {A : Option Addr} {n c : Nat} {w : World} (h : DefBox bx d A n c w) (o : Nat) : w.frozen? ⟨bx, o, none⟩ = false := by
  unfold World.frozen?
  dsimp only
  rw [show w.heap[bx]? = _ from h]; rfl
/-! ### Rows that may be loaded -/
theorem ins_last (x : List UInt8 × Int) : ∀ D : Ents, (∀ y ∈ D, bytesBefore y.1 x.1 = true) → insI x D = D ++ [x]
  | [], _ => rfl
  | y :: r, h => by
    unfold insI
    rw [if_neg (by rw [tb_asymm (h y (by simp))]; decide), ins_last x r fun z hz => h z (by simp [hz])]
    rfl
theorem put_last (k : Str) (v : Int) (D : Ents) (h : ∀ y ∈ D, bytesBefore y.1 k = true) : putI k v D = D ++ [(k, v)] := by
  unfold putI
  have e : delI k D = D := by
    unfold delI
    rw [List.filter_eq_self]
    intro p hp
    have := tb_ne (h p hp)
    simpa using this
  rw [e]
  exact ins_last (k, v) D h
theorem puts_take {l : Ents} (h : UpI l) : ∀ k, k ≤ l.length → putsI (l.take k) = l.take k
  | 0, _ => rfl
  | k + 1, hk => by
    have hkx : k < l.length := by omega
    rw [List.take_succ_eq_append_getElem hkx, putsI_snoc, puts_take h k (by omega)]
    refine put_last _ _ _ fun y hy => ?_
    obtain ⟨j, hj, rfl⟩ := List.getElem_of_mem hy
    rw [List.length_take] at hj
    rw [List.getElem_take]
    exact (List.pairwise_iff_getElem.1 h) j k (by omega) hkx (by omega)
theorem puts_up {l : Ents} (h : UpI l) : putsI l = l := by
  have := puts_take h l.length (Nat.le_refl _)
  rwa [List.take_length] at this
theorem okE_bad {d : DefV} {l : Ents} (h : okE d l = true) {j : Nat} (hj : j < l.length) : badE d l j = false := by
  rw [okE, List.all_eq_true] at h
  have := h j (List.mem_range.2 hj)
  simpa using this
theorem up_of_adj : ∀ {l : Ents}, (∀ j (h : j + 1 < l.length), bytesBefore (l[j]'(by omega)).1 (l[j + 1]'h).1 = true) → UpI l
  | [], _ => .nil
  | [a], _ => List.pairwise_singleton _ _
  | a :: b :: r, h => by
    have ih : UpI (b :: r) := up_of_adj fun j hj => h (j + 1) (by simpa using hj)
    have h0 : bytesBefore a.1 b.1 = true := h 0 (by simp)
    refine List.pairwise_cons.2 ⟨fun x hx => ?_, ih⟩
    rcases List.mem_cons.1 hx with rfl | hx
    · exact h0
    · exact tb_trans h0 ((List.pairwise_cons.1 ih).1 x hx)
theorem okE_up {d : DefV} {l : Ents} (h : okE d l = true) : UpI l := by
  refine up_of_adj fun j hj => ?_
  have hb := okE_bad h hj
  unfold badE at hb
  simp only [Bool.or_eq_false_iff, Bool.and_eq_false_iff] at hb
  rcases hb.1.1 with h1 | h1
  · simp at h1
  · rw [show j + 1 - 1 = j from rfl, gE_at (show j < l.length by omega), gE_at hj] at h1
    simpa using h1
theorem loadF_ok {d : DefV} {l D : Ents} (h : okE d l = true) : loadF d l D = l := by unfold loadF; rw [if_pos h, puts_up (okE_up h)]
theorem loadE_ok {d : DefV} {l : Ents} (h : okE d l = true) : loadE d l = 0 := by unfold loadE; rw [if_pos h]
theorem loadE_no {d : DefV} {l : Ents} (h : okE d l = false) : loadE d l = 1 := by unfold loadE; rw [h]; rfl
end Go.Proofs.YtakebdeldndaaaaGreatDoor

/- Rows of events folded. -/
namespace Go.Proofs.YtakebdeldndaaaaGreatDoor
open Go Go.RowKit
set_option linter.unusedSimpArgs false
set_option linter.unusedVariables false

theorem mayN_len {s : Str} (h : mayN s = true) : s.length ≤ 24 := by
  unfold mayN at h
  simp only [Bool.and_eq_true, decide_eq_true_eq] at h
  exact h.1.1.2
theorem tagN_len {s : Str} (h : tagN s = true) : s.length ≤ 1000 := by
  unfold tagN partsT at h
  split at h
  · cases h
  · rename_i i hi
    split at h
    · rename_i hb
      rw [Bool.and_eq_true] at hb
      have h1 := mayN_len hb.1
      have h2 := mayN_len hb.2
      rw [List.length_take] at h1
      rw [List.length_drop] at h2
      omega
    · cases h
theorem small_may {e : EvV} (h : mayEv e = 0) : SmallE e := by
  unfold mayEv at h
  split at h
  · cases h
  rename_i h1
  split at h
  · cases h
  rename_i h2
  split at h
  · cases h
  split at h
  · cases h
  rename_i h3
  split at h
  · cases h
  rename_i h4
  simp only [Bool.not_eq_true, Bool.or_eq_false_iff, Bool.not_eq_false', decide_eq_false_iff_not] at h1 h2 h3 h4
  refine ⟨by have := mayN_len h1.1; omega, fun t ht => tagN_len (List.all_eq_true.1 h3 t ht), by omega, fun f hf => ?_⟩
  have := List.all_eq_true.1 h4.1.1 f hf
  unfold fitF at this
  simp only [Bool.and_eq_true, decide_eq_true_eq] at this
  omega
def foldE (d : DefV) (D : Ents) (l : List EvV) : Ents := l.foldl (fun D e => (StepF d e D).2) D
theorem foldE_snoc (d : DefV) (D : Ents) (l : List EvV) (e : EvV) : foldE d D (l ++ [e]) = (StepF d e (foldE d D l)).2 := by unfold foldE; rw [List.foldl_append]; rfl
theorem foldE_take (d : DefV) (D : Ents) {l : List EvV} {k : Nat} (hk : k < l.length) : foldE d D (l.take (k + 1)) = (StepF d l[k] (foldE d D (l.take k))).2 := by
  rw [List.take_succ_eq_append_getElem hk, foldE_snoc]
theorem foldE_append (d : DefV) (D : Ents) (l r : List EvV) : foldE d D (l ++ r) = foldE d (foldE d D l) r := by unfold foldE; rw [List.foldl_append]
def OkD (d : DefV) (B : Nat) (D : Ents) : Prop := ∀ p ∈ D, fitsN p.2 = true ∧ (d.kind ≠ 3 → p.2 ≠ 0) ∧ (d.kind ≠ 2 → d.kind ≠ 3 → 0 < p.2 ∧ p.2 ≤ (B : Int))
theorem atI_mem {D : Ents} {k : Str} : atI D k = 0 ∨ ∃ p ∈ D, p.2 = atI D k := by
  unfold atI
  cases hx : D.find? (·.1 == k) with
  | none => exact .inl rfl
  | some x => exact .inr ⟨x, List.mem_of_find?_eq_some hx, rfl⟩
theorem mem_set0 {d : DefV} {k : Str} {n : Int} {D : Ents} {p : List UInt8 × Int} (h : p ∈ setF d k n D) : (p = (k, n) ∧ (n ≠ 0 ∨ d.kind = 3)) ∨ p ∈ D := by
  unfold setF putI delI at h
  split at h
  · exact .inr (List.mem_filter.1 h).1
  · rename_i hn
    rcases mem_insI _ _ _ h with h | h
    · exact .inl ⟨h, by rcases Classical.em (n = 0) with e | e; exact .inr (Classical.byContradiction fun h3 => hn ⟨e, h3⟩); exact .inl e⟩
    · exact .inr (List.mem_filter.1 h).1
theorem OkD.mono {d : DefV} {B B' : Nat} {D : Ents} (h : OkD d B D) (hb : B ≤ B') : OkD d B' D := fun p hp => ⟨(h p hp).1, (h p hp).2.1, fun h2 h3 => by have := (h p hp).2.2 h2 h3; omega⟩
theorem OkD.count {d : DefV} {B : Nat} {D : Ents} (h : OkD d B D) (h2 : d.kind ≠ 2) (h3 : d.kind ≠ 3) (hB : B + 1 ≤ 1125899906842624) (k : Str) : OkD d (B + 1) (countF d k D) := by
  intro p hp
  rcases mem_set0 hp with ⟨rfl, -⟩ | hp
  · have h0 : 0 ≤ atI D k ∧ atI D k ≤ (B : Int) := by
      rcases atI_mem (D := D) (k := k) with e | ⟨x, hx, e⟩
      · rw [e]; omega
      · rw [← e]; have := (h x hx).2.2 h2 h3; omega
    refine ⟨(fitsN_iff _).2 ⟨by show (-1125899906842624 : Int) ≤ atI D k + 1; omega, by show atI D k + 1 ≤ 1125899906842624; omega⟩, fun _ => by show atI D k + 1 ≠ 0; omega, fun _ _ => ⟨by show 0 < atI D k + 1; omega, by show atI D k + 1 ≤ _; omega⟩⟩
  · exact (h.mono (Nat.le_succ B)) p hp
theorem OkD.members {d : DefV} {st : Str} (h2 : d.kind ≠ 2) (h3 : d.kind ≠ 3) : ∀ (ts : List Str) {B : Nat} {D : Ents}, OkD d B D → B + ts.length ≤ 1125899906842624 → OkD d (B + ts.length) (membersF d st ts D)
  | [], B, D, h, _ => h
  | t :: ts, B, D, h, hB => by
    simp only [List.length_cons] at hB ⊢
    have := OkD.members (st := st) h2 h3 ts (h.count h2 h3 (by omega) (keyF t st)) (by omega)
    exact this.mono (by omega)
theorem OkD.step {d : DefV} {B : Nat} {D : Ents} {e : EvV} (h : OkD d B D) (he : SmallE e) (hB : B + 1000 ≤ 1125899906842624) : OkD d (B + 1000) (StepF d e D).2 := by
  unfold StepF
  split
  rotate_left
  · exact h.mono (by omega)
  unfold stepF
  split
  · rename_i h2
    unfold sumF
    split
    · exact h.mono (by omega)
    · rename_i hs
      intro p hp
      rcases mem_set0 hp with ⟨rfl, hn⟩ | hp
      · have hfit : fitsN (atI D [] + (valF e.fields d.field).getD 0) = true := by
          by_cases h0 : (valF e.fields d.field).getD 0 = 0
          · rw [h0, Int.add_zero]
            rcases atI_mem (D := D) (k := []) with e | ⟨x, hx, e⟩
            · rw [e]; rfl
            · rw [← e]; exact (h x hx).1
          · cases hf : fitsN (atI D [] + (valF e.fields d.field).getD 0)
            · exact absurd ⟨hf, h0⟩ hs
            · rfl
        exact ⟨hfit, fun h3 => hn.elim id fun h => absurd h h3, fun h => absurd h2 h⟩
      · exact (h.mono (Nat.le_add_right B 1000)) p hp
  split
  · rename_i h3
    show OkD d (B + 1000) (latestF d e D)
    unfold latestF
    split
    · rename_i v hv
      intro p hp
      rcases mem_set0 hp with ⟨rfl, hn⟩ | hp
      · have := valF_small he d.field
        rw [hv] at this
        exact ⟨(fitsN_iff _).2 this, fun h => absurd h3 h, fun _ h => absurd h3 h⟩
      · exact (h.mono (Nat.le_add_right B 1000)) p hp
    · exact h.mono (by omega)
  rename_i h2 h3
  split
  · have := he.many
    exact (OkD.members (st := e.st) h2 h3 e.tags h (by omega)).mono (by omega)
  · exact (h.count h2 h3 (by omega) []).mono (by omega)
theorem length_step (d : DefV) (e : EvV) (D : Ents) (he : SmallE e) : (StepF d e D).2.length ≤ D.length + 1000 := by
  have hm := he.many
  unfold StepF
  split
  rotate_left
  · exact Nat.le_add_right _ _
  unfold stepF
  split
  · unfold sumF
    split
    · exact Nat.le_add_right _ _
    · have := length_setF d [] (atI D [] + (valF e.fields d.field).getD 0) D
      show (setF _ _ _ _).length ≤ _
      omega
  split
  · show (latestF d e D).length ≤ _
    unfold latestF
    split
    · have := length_setF d e.st ‹Int› D
      omega
    · exact Nat.le_add_right _ _
  split
  · have := length_membersF (d := d) (st := e.st) e.tags D
    show (membersF _ _ _ _).length ≤ _
    omega
  · have := length_setF d [] (atI D [] + 1) D
    show (countF _ _ _).length ≤ _
    unfold countF
    omega
theorem okD_fold {d : DefV} : ∀ (l : List EvV), (∀ e ∈ l, SmallE e) → l.length ≤ 1000 → OkD d (1000 * l.length) (foldE d [] l) ∧ (foldE d [] l).length ≤ 1000 * l.length := fun l => by
  intro h hl
  have key : ∀ k, k ≤ l.length → OkD d (1000 * k) (foldE d [] (l.take k)) ∧ (foldE d [] (l.take k)).length ≤ 1000 * k := fun k => by
    induction k with
    | zero => intro _; exact ⟨fun p hp => by simp [foldE] at hp, by simp [foldE]⟩
    | succ k ih =>
      intro hk
      have hkx : k < l.length := by omega
      obtain ⟨h1, h2⟩ := ih (by omega)
      have hs := h _ (List.getElem_mem hkx)
      rw [foldE_take d [] hkx]
      refine ⟨(h1.step hs (by omega)).mono (by omega), ?_⟩
      have := length_step d l[k] (foldE d [] (l.take k)) hs
      omega
  have := key l.length (Nat.le_refl _)
  rwa [List.take_length] at this
theorem OkD.fit {d : DefV} {B : Nat} {D : Ents} (h : OkD d B D) : FitB 1125899906842624 D := fun p hp => (fitsN_iff _).1 (h p hp).1
theorem OkD.loads {d : DefV} {B : Nat} {D : Ents} (h : OkD d B D) (hu : UpI D) : okE d D = true := by
  refine okE_yes fun j hj => ?_
  unfold badE
  obtain ⟨h1, h2, -⟩ := h _ (List.getElem_mem hj)
  rw [gE_at hj, h1]
  simp only [Bool.not_true, Bool.or_false, Bool.or_eq_false_iff, Bool.and_eq_false_iff, decide_eq_false_iff_not, Bool.not_eq_false']
  refine ⟨?_, ?_⟩
  · by_cases h0 : 0 < j
    · right
      rw [gE_at (show j - 1 < D.length by omega)]
      exact (List.pairwise_iff_getElem.1 hu) (j - 1) j (by omega) hj (by omega)
    · exact .inl h0
  · by_cases h3 : d.kind = 3
    · right; simpa using h3
    · exact .inl (h2 h3)
theorem ownK_out {α : Type} {R : Rep α} {e : TypeId} {K S : Nat → Prop} {w : World} {base : Nat} {v : Value} {xs : List α} (h : OwnK R e K w base v xs) (hK : ∀ k, K k → k < w.heap.size ∧ ¬ S k) (hS : ∀ k, S k → k < base) :
    ∃ A c, v = .slice A xs.length c ∧ SlR R w (Out S w) A xs.length c xs := by
  obtain ⟨A, c, cs, e1, h1, h2, h3, h4⟩ := h.read
  refine ⟨A, c, e1, rfl, h1, h2, cs, h3.mono fun k hk => hK k hk, ?_⟩
  rcases h4 with h4 | ⟨b, o, e2, h4⟩
  · exact .inl h4
  · by_cases h0 : 0 < xs.length
    · obtain ⟨g, c', e3, -, hg1, hg2, -⟩ := h.at_ h0
      rw [e1] at e3
      simp only [Value.slice.injEq] at e3
      rw [e2] at e3
      simp only [Option.some.injEq, Addr.mk.injEq] at e3
      obtain ⟨⟨rfl, -, -⟩, -⟩ := e3
      exact .inr ⟨b, o, e2, ⟨hg2, fun h => by have := hS b h; omega⟩, h4⟩
    · have : xs = [] := List.length_eq_zero_iff.1 (by omega)
      subst this
      exact .inl h3
end Go.Proofs.YtakebdeldndaaaaGreatDoor

/- Three states side by side, and a row of events. -/
namespace Go.Proofs.YtakebdeldndaaaaGreatDoor
open Go Go.RowKit
set_option linter.unusedSimpArgs false
set_option linter.unusedVariables false

def Apart (a ma b mb : Nat) : Prop := a ≠ b ∧ a ≠ mb ∧ ma ≠ b ∧ ma ≠ mb
theorem Apart.symm {a ma b mb : Nat} (h : Apart a ma b mb) : Apart b mb a ma := ⟨fun e => h.1 e.symm, fun e => h.2.2.1 e.symm, fun e => h.2.1 e.symm, fun e => h.2.2.2 e.symm⟩
structure Three (n0 : Nat) (S : Nat → Prop) (a ma b mb c mc : Nat) (da db dc : DefV) (wx : World) (Da Db Dc : Ents) : Prop where
  A : StIs wx S a ma (kdVal da) da.q Da
  B : StIs wx S b mb (kdVal db) db.q Db
  C : StIs wx S c mc (kdVal dc) dc.q Dc
  ab : Apart a ma b mb
  ac : Apart a ma c mc
  bc : Apart b mb c mc
  lo : ∀ k, S k → n0 ≤ k
section
variable {n0 : Nat} {S : Nat → Prop} {a ma b mb c mc : Nat} {da db dc : DefV} {w w' : World} {Da Db Dc D' : Ents}
theorem Three.ext (h : Three n0 S a ma b mb c mc da db dc w Da Db Dc) (hE : Ext w w') : Three n0 S a ma b mb c mc da db dc w' Da Db Dc := ⟨h.A.ext hE, h.B.ext hE, h.C.ext hE, h.ab, h.ac, h.bc, h.lo⟩
end
def S6 (a ma b mb c mc : Nat) (k : Nat) : Prop := k = a ∨ k = ma ∨ k = b ∨ k = mb ∨ k = c ∨ k = mc
end Go.Proofs.YtakebdeldndaaaaGreatDoor

/- What folding hangs on: sums. Plain. -/
namespace Go.Proofs.YtakebdeldndaaaaGreatDoor
open Go
set_option linter.unusedVariables false

theorem up_ext : ∀ {D D' : Ents}, UpI D → UpI D' → (∀ p, p ∈ D ↔ p ∈ D') → D = D'
  | [], [], _, _, _ => rfl
  | [], b :: E, _, _, h => by have := (h b).2 (by simp); simp at this
  | a :: D, [], _, _, h => by have := (h a).1 (by simp); simp at this
  | a :: D, b :: E, h1, h2, h => by
    obtain ⟨g1, g1'⟩ := List.pairwise_cons.1 h1
    obtain ⟨g2, g2'⟩ := List.pairwise_cons.1 h2
    have hab : a = b := by
      rcases List.mem_cons.1 ((h a).1 (by simp)) with e | ha
      · exact e
      · rcases List.mem_cons.1 ((h b).2 (by simp)) with e | hb
        · exact e.symm
        · have x1 := g2 a ha
          have x2 := g1 b hb
          rw [tb_asymm x1] at x2; cases x2
    subst hab
    congr 1
    refine up_ext g1' g2' fun p => ⟨fun hp => ?_, fun hp => ?_⟩
    · rcases List.mem_cons.1 ((h p).1 (by simp [hp])) with e | h'
      · subst e; have := g1 p hp; rw [tb_irrefl] at this; cases this
      · exact h'
    · rcases List.mem_cons.1 ((h p).2 (by simp [hp])) with e | h'
      · subst e; have := g2 p hp; rw [tb_irrefl] at this; cases this
      · exact h'
theorem atI_of_mem {D : Ents} (h : UpI D) {p : List UInt8 × Int} (hp : p ∈ D) : atI D p.1 = p.2 := by
  obtain ⟨j, hj, rfl⟩ := List.getElem_of_mem hp
  exact up_find h j hj
theorem mem_of_atI {D : Ents} {k : Str} (h : atI D k ≠ 0) : (k, atI D k) ∈ D := by
  unfold atI at h ⊢
  cases hx : D.find? (·.1 == k) with
  | none => rw [hx] at h; exact absurd rfl h
  | some x =>
    have h1 := List.mem_of_find?_eq_some hx
    have h2 := List.find?_some hx
    have h3 : x.1 = k := by simpa using h2
    show (k, x.2) ∈ D
    rw [← h3]; exact h1
theorem ents_ext {D D' : Ents} (h : UpI D) (h' : UpI D') (h0 : ∀ p ∈ D, p.2 ≠ 0) (h0' : ∀ p ∈ D', p.2 ≠ 0) (he : ∀ k, atI D k = atI D' k) : D = D' := by
  refine up_ext h h' fun p => ⟨fun hp => ?_, fun hp => ?_⟩
  · have e := atI_of_mem h hp
    have := mem_of_atI (D := D') (k := p.1) (by rw [← he, e]; exact h0 p hp)
    rwa [← he, e] at this
  · have e := atI_of_mem h' hp
    have := mem_of_atI (D := D) (k := p.1) (by rw [he, e]; exact h0' p hp)
    rwa [he, e] at this
end Go.Proofs.YtakebdeldndaaaaGreatDoor

/- A state's copy. -/
namespace Go.Proofs.YtakebdeldndaaaaGreatDoor
open Go Go.RowKit
set_option linter.unusedSimpArgs false
set_option linter.unusedVariables false

set_option maxRecDepth 100000 in
set_option maxHeartbeats 2000000 in
theorem mapsClone_int (b : Nat) (es : Array MapEntry) (clock : Nat) (w : World) (hb : w.heap[b]? = some (.map es clock)) :
    Calls Tryz.prog 205 #[.map (some b)] w fun e w' => e = .returned (.map (some w.heap.size)) ∧ w' = w.alloc (.map es clock) := by
  have hq := fun w => run_eql_map_nil_sl (P := Tryz.prog) w 186 _ _ (some b) Tryz.underlying186
  have Hb := hid hb; clear hb
  go_enter Tryz.func205, Tryz.ntmps205
  go_wp2
  rw [run_callFunc_extern Tryz.func216 (by kernel_rfl) (by kernel_rfl) (by kernel_rfl) (e := Extern.MapsClone.clone) (by kernel_rfl), run_maps_clone_sl w 186 Hb.out]
  simp only [Result.andThen]
  rw [Oper.upon_value]
  go_wp2
  rw [run_typeAssert_map_sl _ 186 _ _ _ _ Tryz.underlying186]
  simp only [Result.andThen]
  rw [Oper.upon_value]
  go_wp2
  go_ret
  exact ⟨rfl, rfl⟩
theorem MapI.copy {w : World} {m : Nat} {D : Ents} (h : MapI w m D) : ∃ es clock, w.heap[m]? = some (.map es clock) ∧ MapI (w.alloc (.map es clock)) w.heap.size D := by
  obtain ⟨es, clock, h1, h2, h3, h4⟩ := h
  exact ⟨es, clock, h1, es, clock, heap_alloc_last _ _, h2, h3, h4⟩
def mapNewI (base : Nat) (D : Ents) : SPred := ⟨fun v w => ∃ m, v = .map (some m) ∧ base ≤ m ∧ MapI w m D, fun _ _ _ ⟨m, h1, h2, h3⟩ hE => ⟨m, h1, h2, h3.ext hE⟩⟩
set_option maxRecDepth 100000 in
set_option maxHeartbeats 2000000 in
theorem foldClone_at {w : World} {S : Nat → Prop} {s m : Nat} {d : DefV} {q : List ClV} {D : Ents} (h : StIs w S s m (kdVal d) q D) :
    Calls Tryz.prog 182 #[.pointer (some ⟨s, 0, none⟩)] w fun e w' => ∃ s' m', e = .returned (.pointer (some ⟨s', 0, none⟩)) ∧ w.heap.size ≤ s' ∧ w.heap.size ≤ m' ∧
      StIs w' (fun k => S k ∨ k = s' ∨ k = m') s' m' (kdVal d) q D ∧ Ext w w' := by
  obtain ⟨A, c, c0, c1, c2, hq⟩ := h.cells
  have HSt := hid h
  have HM := hid h.map
  have HC := hid (And.intro c0 (And.intro c1 c2))
  have Hq := hid hq
  clear h c0 c1 c2 hq
  obtain ⟨t, u, hk⟩ := kd_cell d
  rw [hk] at HC ⊢
  have Hqn := hid (show q.length = q.length from rfl)
  generalize hqn : q.length = nq at HC Hq
  have HN := hid hqn
  clear hqn Hqn
  go_enter Tryz.func182, Tryz.ntmps182
  go_wp2_with fail
  apply wp_drawn_last 13 [isV _, isV _, isV _, isV _, isV _, isV _, isV _, isV _, isV _, isV _, isV _, isV _, mapNewI w.heap.size D] (by decide) (by kernel_rfl)
  · kernel_rfl
  · kernel_rfl
  · refine ⟨?r1s0, ?r1s1, ?r1s2, ?r1s3, ?r1s4, ?r1s5, ?r1s6, ?r1s7, ?r1s8, ?r1s9, ?r1s10, ?r1s11, ?r1s12, trivial⟩
    case r1s0 =>
      intro v W hE hd; simp only [Region.wanted, ↓reduceIte]; (try simp [deps, waitsOn, Region.binds, knowing, isV, ownsV, anyV] at hd); simp only [putAll, List.take_succ_cons, List.take_zero, List.drop_succ_cons, List.drop_zero, Act.put, List.setIfInBounds_toArray, List.set_cons_zero, List.set_cons_succ, Nat.zero_add, Nat.reduceAdd]; go_simp; exact ⟨Below.refl _ _, rfl⟩
    case r1s1 =>
      intro v W hE hd; simp only [Region.wanted, ↓reduceIte]; (try simp [deps, waitsOn, Region.binds, knowing, isV, ownsV, anyV] at hd); simp only [putAll, List.take_succ_cons, List.take_zero, List.drop_succ_cons, List.drop_zero, Act.put, List.setIfInBounds_toArray, List.set_cons_zero, List.set_cons_succ, Nat.zero_add, Nat.reduceAdd]; go_simp; exact ⟨Below.refl _ _, rfl⟩
    case r1s2 =>
      intro v W hE hd; simp only [Region.wanted, ↓reduceIte]; (try simp [deps, waitsOn, Region.binds, knowing, isV, ownsV, anyV] at hd); simp only [putAll, List.take_succ_cons, List.take_zero, List.drop_succ_cons, List.drop_zero, Act.put, List.setIfInBounds_toArray, List.set_cons_zero, List.set_cons_succ, Nat.zero_add, Nat.reduceAdd]; go_simp; exact ⟨Below.refl _ _, rfl⟩
    case r1s3 =>
      intro v W hE hd; simp only [Region.wanted, ↓reduceIte]; (try simp [deps, waitsOn, Region.binds, knowing, isV, ownsV, anyV] at hd); simp only [putAll, List.take_succ_cons, List.take_zero, List.drop_succ_cons, List.drop_zero, Act.put, List.setIfInBounds_toArray, List.set_cons_zero, List.set_cons_succ, Nat.zero_add, Nat.reduceAdd]
      have e1 := cell_below hE HC.out.1
      go_simp
      exact ⟨Below.refl _ _, rfl⟩
    case r1s4 =>
      intro v W hE hd; simp only [Region.wanted, ↓reduceIte]; (try simp [deps, waitsOn, Region.binds, knowing, isV, ownsV, anyV] at hd); simp only [putAll, List.take_succ_cons, List.take_zero, List.drop_succ_cons, List.drop_zero, Act.put, List.setIfInBounds_toArray, List.set_cons_zero, List.set_cons_succ, Nat.zero_add, Nat.reduceAdd]; go_simp; exact ⟨Below.refl _ _, rfl⟩
    case r1s5 =>
      intro v W hE hd; simp only [Region.wanted, ↓reduceIte]; (try simp [deps, waitsOn, Region.binds, knowing, isV, ownsV, anyV] at hd); simp only [putAll, List.take_succ_cons, List.take_zero, List.drop_succ_cons, List.drop_zero, Act.put, List.setIfInBounds_toArray, List.set_cons_zero, List.set_cons_succ, Nat.zero_add, Nat.reduceAdd]; go_simp; exact ⟨Below.refl _ _, rfl⟩
    case r1s6 =>
      intro v W hE hd; simp only [Region.wanted, ↓reduceIte]; (try simp [deps, waitsOn, Region.binds, knowing, isV, ownsV, anyV] at hd); simp only [putAll, List.take_succ_cons, List.take_zero, List.drop_succ_cons, List.drop_zero, Act.put, List.setIfInBounds_toArray, List.set_cons_zero, List.set_cons_succ, Nat.zero_add, Nat.reduceAdd]; go_simp; exact ⟨Below.refl _ _, rfl⟩
    case r1s7 =>
      intro v W hE hd; simp only [Region.wanted, ↓reduceIte]; (try simp [deps, waitsOn, Region.binds, knowing, isV, ownsV, anyV] at hd); simp only [putAll, List.take_succ_cons, List.take_zero, List.drop_succ_cons, List.drop_zero, Act.put, List.setIfInBounds_toArray, List.set_cons_zero, List.set_cons_succ, Nat.zero_add, Nat.reduceAdd]
      have e1 := cell_below hE HC.out.2.1
      go_simp
      exact ⟨Below.refl _ _, rfl⟩
    case r1s8 =>
      intro v W hE hd; simp only [Region.wanted, ↓reduceIte]; (try simp [deps, waitsOn, Region.binds, knowing, isV, ownsV, anyV] at hd); simp only [putAll, List.take_succ_cons, List.take_zero, List.drop_succ_cons, List.drop_zero, Act.put, List.setIfInBounds_toArray, List.set_cons_zero, List.set_cons_succ, Nat.zero_add, Nat.reduceAdd]; go_simp; exact ⟨Below.refl _ _, rfl⟩
    case r1s9 =>
      intro v W hE hd; simp only [Region.wanted, ↓reduceIte]; (try simp [deps, waitsOn, Region.binds, knowing, isV, ownsV, anyV] at hd); simp only [putAll, List.take_succ_cons, List.take_zero, List.drop_succ_cons, List.drop_zero, Act.put, List.setIfInBounds_toArray, List.set_cons_zero, List.set_cons_succ, Nat.zero_add, Nat.reduceAdd]; go_simp; exact ⟨Below.refl _ _, rfl⟩
    case r1s10 =>
      intro v W hE hd; simp only [Region.wanted, ↓reduceIte]; (try simp [deps, waitsOn, Region.binds, knowing, isV, ownsV, anyV] at hd); simp only [putAll, List.take_succ_cons, List.take_zero, List.drop_succ_cons, List.drop_zero, Act.put, List.setIfInBounds_toArray, List.set_cons_zero, List.set_cons_succ, Nat.zero_add, Nat.reduceAdd]; go_simp; exact ⟨Below.refl _ _, rfl⟩
    case r1s11 =>
      intro v W hE hd; simp only [Region.wanted, ↓reduceIte]; (try simp [deps, waitsOn, Region.binds, knowing, isV, ownsV, anyV] at hd); simp only [putAll, List.take_succ_cons, List.take_zero, List.drop_succ_cons, List.drop_zero, Act.put, List.setIfInBounds_toArray, List.set_cons_zero, List.set_cons_succ, Nat.zero_add, Nat.reduceAdd]
      have e1 := cell_below hE HC.out.2.2
      go_simp
      exact ⟨Below.refl _ _, rfl⟩
    case r1s12 =>
      intro v W hE hd; simp only [Region.wanted, ↓reduceIte]; (try simp [deps, waitsOn, Region.binds, knowing, isV, ownsV, anyV] at hd); simp only [putAll, List.take_succ_cons, List.take_zero, List.drop_succ_cons, List.drop_zero, Act.put, List.setIfInBounds_toArray, List.set_cons_zero, List.set_cons_succ, Nat.zero_add, Nat.reduceAdd]
      go_simp
      obtain ⟨es, clock, hb, hM⟩ := (HM.out.ext hE).copy
      have HM2 := hid hM; clear hM
      refine (mapsClone_int m es clock W hb).mono ?_
      rintro e w5 ⟨rfl, rfl⟩
      clear hb
      go_simp
      exact ⟨(Below.refl _ _).alloc (Nat.le_refl _) _, _, rfl, hE.size, HM2.out⟩
  · rintro v W hE ⟨-, -, -, e3, -, -, -, e7, -, -, -, -, e12, -⟩
    have e3 := (show v 3 = _ from e3)
    have e7 := (show v 7 = _ from e7)
    have e12 := (show _ from e12)
    simp only [putAll, List.take_succ_cons, List.take_zero, List.drop_succ_cons, List.drop_zero, Act.put, List.setIfInBounds_toArray, List.set_cons_zero, List.set_cons_succ, Nat.zero_add, Nat.reduceAdd]
    obtain ⟨m', e12, hm', hM'⟩ := e12
    rw [e3, e7, e12]
    have HM' := hid hM'
    have HE := hid hE
    have hmlt := hM'.lt
    clear hE e3 e7 e12 hM'
    go_wp2
    go_ret
    have hA : Ext W (W.alloc (.cells #[.iface t u, .slice A nq c, .map (some m')] 188)) := ext_alloc _ _
    have hE2 := Ext.trans' HE.out hA
    have hsz := HE.out.size
    have hls := HSt.out.lt
    refine ⟨W.heap.size, m', rfl, HE.out.size, hm', ⟨⟨A, c, ?_, ?_⟩, HM'.out.ext hA, .inr (.inl rfl), .inr (.inr rfl), by omega⟩, hE2⟩
    · rw [HN.out]; exact heap_alloc_last _ _
    · rw [HN.out]; exact slR_more Hq.out hE2 fun k hk => by
        rcases hk with h | h | h
        · exact .inl h
        · right; omega
        · right; omega
end Go.Proofs.YtakebdeldndaaaaGreatDoor

