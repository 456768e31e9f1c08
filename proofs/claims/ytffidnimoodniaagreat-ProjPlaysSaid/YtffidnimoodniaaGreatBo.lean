/- Several texts of this claim's, one behind the other. -/
import Derived.Test.YtffidnimoodniaaGreatLd
import Derived.Test.YtffidnimoodniaaGreatRs
import Derived.Test.YtffidnimoodniaaGreatSame
import Derived.Test.YtffidnimoodniaaGreatPhaseG
/- A set, and the reference's one, side by side. -/
namespace Go.Proofs.YtffidnimoodniaaGreat
open Go Go.RowKit
set_option linter.unusedSimpArgs false
set_option linter.unusedVariables false

def SRowNe (w : World) (p : Nat) (L : List Pc) (b : Nat) : Prop := ∀ A c, w.heap[p]? = some (.cells #[.slice A L.length c] 82) → SlR Rep.ptr w (fun k => Free L p w k ∧ k ≠ b) A L.length c (L.map (·.s))
section
variable {w w' : World} {S S' : Nat → Prop} {p : Nat} {L : List Pc}
theorem srowNe_of_lo {n b : Nat} (h : SRowLo w n p L) (hb : b < n) : SRowNe w p L b := by
  intro A c hc
  obtain ⟨A', c', h1, h2⟩ := h.row
  rw [h1] at hc
  simp only [Option.some.injEq, Obj.cells.injEq, Array.mk.injEq, List.cons.injEq, Value.slice.injEq, and_true, true_and] at hc
  obtain ⟨rfl, rfl⟩ := hc
  exact h2.mono fun k hk => ⟨hk.1, by have := hk.2; omega⟩
theorem srowNe_of_young {b : Nat} (h : RSetIs w S p L) (hb : w.heap.size ≤ b) : SRowNe w p L b := by
  intro A c hc
  obtain ⟨A', c', h1, h2⟩ := h.row
  rw [h1] at hc
  simp only [Option.some.injEq, Obj.cells.injEq, Array.mk.injEq, List.cons.injEq, Value.slice.injEq, and_true, true_and] at hc
  obtain ⟨rfl, rfl⟩ := hc
  exact h2.mono fun k hk => ⟨hk, by have := hk.1; omega⟩
theorem SRowNe.kept {a b : Nat} (h : SRowNe w p L b) (ha : SRowNe w p L a) (hp : p < w.heap.size) (hk : Kept2 a a w w') (hpb : p ≠ a) : SRowNe w' p L b := by
  intro A c hc
  rw [hk.block p hp hpb hpb] at hc
  have h1 := ha A c hc
  have h2 := h A c hc
  obtain ⟨n1, n2, n3, cs, hr, hv⟩ := h1
  obtain ⟨-, -, -, cs2, hr2, hv2⟩ := h2
  have e : cs = cs2 := by
    have f : ∀ {K K' : Nat → Prop} {xs : List Nat} {u v : List Value}, Rows Rep.ptr w K xs u → Rows Rep.ptr w K' xs v → u = v := by
      intro K K' xs
      induction xs with
      | nil => intro u v h1 h2; rw [show u = [] from h1, show v = [] from h2]
      | cons x xs ih =>
        rintro u v ⟨c1, r1, e1, hc1, hr1⟩ ⟨c2, r2, e2, hc2, hr2⟩
        rw [e1, e2, show c1 = _ from hc1, show c2 = _ from hc2, ih hr1 hr2]
    exact f hr hr2
  subst e
  refine ⟨n1, n2, n3, cs, rows_ptr hr, ?_⟩
  rcases hv with hv | ⟨b1, o, e1, hb1, hv⟩
  · exact .inl hv
  · rcases hv2 with hv2 | ⟨b2, o2, e2, hb2, hv2⟩
    · exact .inl hv2
    · rw [e1] at e2
      simp only [Option.some.injEq, Addr.mk.injEq, and_true] at e2
      obtain ⟨rfl, rfl⟩ := e2
      refine .inr ⟨b1, o, e1, ⟨⟨Nat.lt_of_lt_of_le hb1.1.1 hk.size, hb1.1.2⟩, hb2.2⟩, fun j u hu => ?_⟩
      have h4 := hv j u hu
      have h3 := hk.block b1 hb1.1.1 hb1.2 hb1.2
      have e : w'.cell? ⟨b1, o + j, none⟩ = w.cell? ⟨b1, o + j, none⟩ := by unfold World.cell?; dsimp only; rw [h3]
      rw [e]; exact h4
theorem SRowNe.ext {b : Nat} (h : SRowNe w p L b) (hp : p < w.heap.size) (hE : Ext w w') : SRowNe w' p L b := by
  intro A c hc
  rw [hE.block p hp] at hc
  exact ((h A c hc).ext fun k hk => hE.block k hk.1.1).mono fun k hk => ⟨⟨Nat.lt_of_lt_of_le hk.1.1 hE.size, hk.1.2⟩, hk.2⟩
/-- Work aside, at a, leaves what is known of b. -/
theorem RowNe.kept' {a b : Nat} (h : RowNe w p L b) (ha : RowNe w p L a) (hp : p < w.heap.size) (hk : Kept2 a a w w') (hpb : p ≠ a) : RowNe w' p L b := by
  intro A c hc
  rw [hk.block p hp hpb hpb] at hc
  have h1 := ha A c hc
  have h2 := h A c hc
  obtain ⟨n1, n2, n3, cs, hr, hv⟩ := h1
  obtain ⟨-, -, -, cs2, hr2, hv2⟩ := h2
  have e : cs = cs2 := by
    have f : ∀ {K K' : Nat → Prop} {xs : List Nat} {u v : List Value}, Rows Rep.ptr w K xs u → Rows Rep.ptr w K' xs v → u = v := by
      intro K K' xs
      induction xs with
      | nil => intro u v h1 h2; rw [show u = [] from h1, show v = [] from h2]
      | cons x xs ih =>
        rintro u v ⟨c1, r1, e1, hc1, hr1⟩ ⟨c2, r2, e2, hc2, hr2⟩
        rw [e1, e2, show c1 = _ from hc1, show c2 = _ from hc2, ih hr1 hr2]
    exact f hr hr2
  subst e
  refine ⟨n1, n2, n3, cs, rows_ptr hr, ?_⟩
  rcases hv with hv | ⟨b1, o, e1, hb1, hv⟩
  · exact .inl hv
  · rcases hv2 with hv2 | ⟨b2, o2, e2, hb2, hv2⟩
    · exact .inl hv2
    · rw [e1] at e2
      simp only [Option.some.injEq, Addr.mk.injEq, and_true] at e2
      obtain ⟨rfl, rfl⟩ := e2
      refine .inr ⟨b1, o, e1, ⟨⟨Nat.lt_of_lt_of_le hb1.1.1 hk.size, hb1.1.2⟩, hb2.2⟩, fun j u hu => ?_⟩
      have h4 := hv j u hu
      have h3 := hk.block b1 hb1.1.1 hb1.2 hb1.2
      have e : w'.cell? ⟨b1, o + j, none⟩ = w.cell? ⟨b1, o + j, none⟩ := by unfold World.cell?; dsimp only; rw [h3]
      rw [e]; exact h4
end
structure Both (n0 : Nat) (w : World) (S : Nat → Prop) (p : Nat) (L : List Pc) (q : Nat) (M : List Pc) : Prop where
  A : SetIs w S p L
  B : RSetIs w S q M
  rA : RowNe w p L q
  rB : SRowNe w q M p
  ne : p ≠ q
  fA : ¬ Blk L q
  fB : ¬ Blk M p
  lt : ∀ k, S k → k < w.heap.size
  lo : ∀ k, S k → n0 ≤ k
section
variable {n0 : Nat} {w w' : World} {S S' : Nat → Prop} {p q : Nat} {L M : List Pc}
theorem Both.ext (h : Both n0 w S p L q M) (hE : Ext w w') : Both n0 w' S p L q M :=
  ⟨h.A.ext hE, h.B.ext hE, h.rA.ext h.A.lt hE, h.rB.ext h.B.lt hE, h.ne, h.fA, h.fB, fun k hk => Nat.lt_of_lt_of_le (h.lt k hk) hE.size, h.lo⟩
/-- The reference's set beside the program's. -/
theorem both_new {w1 w2 : World} {S1 S2 : Nat → Prop} {n : Nat} (h1 : SetIs w1 S1 p L) (hb1 : ∀ k, Blk L k ∨ k = p → n ≤ k ∧ k < w1.heap.size) (hE : Ext w1 w2)
    (h2 : RSetIs w2 S2 q M) (hR2 : SRowLo w2 w1.heap.size q M) (hb2 : ∀ k, Blk M k ∨ k = q → w1.heap.size ≤ k ∧ k < w2.heap.size) (hS2 : ∀ k, n ≤ k → k < w1.heap.size → S2 k) :
    Both n w2 (fun k => (k = p ∨ Blk L k) ∨ (k = q ∨ Blk M k)) p L q M := by
  have hp := hb1 p (.inr rfl)
  have hq := (hb2 q (.inr rfl)).1
  refine ⟨?_, ?_, (rowNe_of_young h1 hq).ext hp.2 hE, srowNe_of_lo hR2 hp.2, by omega, fun h => by have := (hb1 q (.inl h)).2; omega, fun h => by have := (hb2 p (.inl h)).1; omega, fun k hk => ?_, fun k hk => ?_⟩
  · refine (h1.less (S' := fun k => k = p ∨ Blk L k) (fun k hk => ?_) (fun k hk => .inr hk) (.inl rfl)).more hE (fun k hk => ?_) fun k hk => .inl hk
    · rcases hk with rfl | hk
      · exact h1.pIn
      · exact (h1.pcs.lt hk).2
    · exact hk.imp id fun h => (hb2 k h.symm).1
  · refine h2.less (fun k hk => ?_) (fun k hk => .inr (.inr hk)) (.inr (.inl rfl))
    rcases hk with hk | rfl | hk
    · exact hS2 k (hb1 k hk.symm).1 (hb1 k hk.symm).2
    · exact h2.pIn
    · exact (h2.pcs.lt hk).2
  · have := hE.size
    rcases hk with hk | hk
    · have := (hb1 k hk.symm).2; omega
    · exact (hb2 k hk.symm).2
  · rcases hk with hk | hk
    · exact (hb1 k hk.symm).1
    · have := (hb2 k hk.symm).1; omega
/-- The program's set is another one. -/
theorem Both.newA {L' : List Pc} (h : Both n0 w S p L q M) (hk : Kept2 p p w w') (h1 : SetIs w' S' p L') (h5 : RowLo w' w.heap.size p L') (h3 : ∀ k, S' k → (S k ∨ w.heap.size ≤ k) ∧ k < w'.heap.size) (h4 : ∀ k, S k → S' k) (h6 : ∀ k, Blk L' k → Blk L k ∨ w.heap.size ≤ k) : Both n0 w' S' p L' q M := by
  refine ⟨h1, ?_, rowNe_of_lo h5 h.B.lt, h.rB.kept h.rB h.B.lt hk h.ne.symm, h.ne, fun hb => by
      rcases h6 q hb with h' | h'
      · exact h.fA h'
      · have := h.B.lt; omega, h.fB, fun k hk => (h3 k hk).2, fun k hk => (h3 k hk).1.elim (h.lo k) fun h' => by have := h.lo _ h.A.pIn; have := h.A.lt; omega⟩
  have hB : RSetIs w S' q M := h.B.more (Below.refl _ _) (fun k hk => (h3 k hk).1) h4
  exact hB.kept hk (h4 _ h.A.pIn) (h4 _ h.A.pIn) ⟨h.fB, h.ne⟩ ⟨h.fB, h.ne⟩ fun A c hc => (h.rB A c hc).mono fun k hk => ⟨hk.1, hk.2, hk.2⟩
theorem Both.newB {M' : List Pc} (h : Both n0 w S p L q M) (hk : Kept2 q q w w') (h1 : RSetIs w' S' q M') (h5 : SRowLo w' w.heap.size q M') (h3 : ∀ k, S' k → (S k ∨ w.heap.size ≤ k) ∧ k < w'.heap.size) (h4 : ∀ k, S k → S' k) (h6 : ∀ k, Blk M' k → Blk M k ∨ w.heap.size ≤ k) : Both n0 w' S' p L q M' := by
  refine ⟨?_, h1, h.rA.kept h.A.lt hk h.ne, srowNe_of_lo h5 h.A.lt, h.ne, h.fA, fun hb => by
      rcases h6 p hb with h' | h'
      · exact h.fB h'
      · have := h.A.lt; omega, fun k hk => (h3 k hk).2, fun k hk => (h3 k hk).1.elim (h.lo k) fun h' => by have := h.lo _ h.A.pIn; have := h.A.lt; omega⟩
  have hA : SetIs w S' p L := h.A.more (Below.refl _ _) (fun k hk => (h3 k hk).1) h4
  exact hA.kept hk (h4 _ h.B.pIn) (h4 _ h.B.pIn) ⟨h.fA, h.ne.symm⟩ ⟨h.fA, h.ne.symm⟩ fun A c hc => (h.rA A c hc).mono fun k hk => ⟨hk.1, hk.2, hk.2⟩
/-- What states come to. -/
def afterV (es : List EvV) (V : List (DefV × Ents)) : List (DefV × Ents) := if okAll es V = true then runAll es V else V
def afterE (es : List EvV) (V : List (DefV × Ents)) : Int := if okAll es V = true then 0 else 4
theorem Both.didA {es : List EvV} {x : Ending} (h : Both n0 w S p L q M) (hD : DidIs w S p L es x w') : x = .returned (.int .i64 (afterE es (viewP L))) ∧ ∃ S' L', Both n0 w' S' p L' q M ∧ viewP L' = afterV es (viewP L) ∧ (∀ k, S k → S' k) ∧ (∀ k, S' k → S k ∨ w.heap.size ≤ k) := by
  unfold afterE afterV
  rcases hD.ans with ⟨hok, rfl, L', S', h1, h2, h3, h4, h5, h6⟩ | ⟨hok, rfl, hE⟩
  · rw [if_pos hok, if_pos hok]
    exact ⟨rfl, S', L', h.newA hD.kept h1 h5 h3 h4 (fun k hk => .inr (h6 k hk)), h2, h4, fun k hk => (h3 k hk).1⟩
  · rw [if_neg (by rw [hok]; decide), if_neg (by rw [hok]; decide)]
    exact ⟨rfl, S, L, h.ext hE, rfl, fun k hk => hk, fun k hk => .inl hk⟩
theorem Both.didB {es : List EvV} {x : Ending} (h : Both n0 w S p L q M) (hD : SDidIs w S q M es x w') : x = .returned (.int .i64 (afterE es (viewP M))) ∧ ∃ S' M', Both n0 w' S' p L q M' ∧ viewP M' = afterV es (viewP M) ∧ (∀ k, S k → S' k) ∧ (∀ k, S' k → S k ∨ w.heap.size ≤ k) := by
  unfold afterE afterV
  rcases hD.ans with ⟨hok, rfl, L', S', h1, h2, h3, h4, h5, h6⟩ | ⟨hok, rfl, hE⟩
  · rw [if_pos hok, if_pos hok]
    exact ⟨rfl, S', L', h.newB hD.kept h1 h5 h3 h4 (fun k hk => .inr (h6 k hk)), h2, h4, fun k hk => (h3 k hk).1⟩
  · rw [if_neg (by rw [hok]; decide), if_neg (by rw [hok]; decide)]
    exact ⟨rfl, S, M, h.ext hE, rfl, fun k hk => hk, fun k hk => .inl hk⟩
/-- A third set, made as a copy of the first, beside it. -/
structure Trio (n0 : Nat) (w : World) (S : Nat → Prop) (o : Nat) (L0 : List Pc) (p : Nat) (L : List Pc) (q : Nat) (M : List Pc) : Prop where
  two : Both n0 w S p L q M
  O : SetIs w S o L0
  rA : RowNe w p L o
  rB : SRowNe w q M o
  ne : o ≠ p ∧ o ≠ q
  f : ¬ Blk L o ∧ ¬ Blk M o
theorem Both.clone {e : Ending} (h : Both n0 w S p L q M) (hC : ClonedIs w S L e w') : ∃ p2 L2 S2, e = .returned (.pointer (some ⟨p2, 0, none⟩)) ∧ Trio n0 w' S2 p L p2 L2 q M ∧ viewP L2 = viewP L := by
  obtain ⟨hE, p2, v, L2, rfl, hI⟩ := hC
  have hd := hI.done
  have hp2 := hI.lo.2
  have hq := h.B.lt
  have hp := h.A.lt
  obtain ⟨A2, c2, q1, q2⟩ := hI.rowLo
  have hlo : RowLo w' w.heap.size p2 L2 := ⟨A2, c2, q1, q2⟩
  have hS : ∀ k, S k → NewS S p2 v L2 k := fun k hk => .inr (.inr (.inr hk))
  have hN : ∀ k, NewS S p2 v L2 k → S k ∨ w.heap.size ≤ k := fun k hk => by
    rcases hk with hk | hk | hk | hk
    · exact .inr ((hI.lt k (.inl hk)).1)
    · exact .inr ((hI.lt k (.inr (.inl hk))).1)
    · exact .inr ((hI.lt k (.inr (.inr (.inl hk)))).1)
    · exact .inl hk
  have hL : ∀ k, NewS S p2 v L2 k → k < w'.heap.size := fun k hk => by
    rcases hk with hk | hk | hk | hk
    · exact (hI.lt k (.inl hk)).2
    · exact (hI.lt k (.inr (.inl hk))).2
    · exact (hI.lt k (.inr (.inr (.inl hk)))).2
    · exact Nat.lt_of_lt_of_le (h.lt k hk) hE.size
  have hb : ∀ k, Blk L2 k → w.heap.size ≤ k := fun k hk => (hI.lt k (.inr (.inr (.inl hk)))).1
  have hBM : ∀ k, Blk M k → k < w.heap.size := fun k hk => (h.B.pcs.lt hk).1
  refine ⟨p2, L2, _, rfl, ⟨⟨hd, h.B.more hE hN hS, rowNe_of_lo hlo hq, (srowNe_of_young h.B hp2).ext hq hE, by omega, fun hk => by have := hb q hk; omega, fun hk => by have := hBM p2 hk; omega, hL, fun k hk => (hN k hk).elim (h.lo k) fun h' => by have := h.lo _ h.A.pIn; omega⟩,
    h.A.more hE hN hS, rowNe_of_lo hlo hp, h.rB.ext hq hE, ⟨by omega, h.ne⟩, ⟨fun hk => by have := hb p hk; omega, h.fB⟩⟩, hI.view⟩
theorem Trio.ext {o : Nat} {L0 : List Pc} (h : Trio n0 w S o L0 p L q M) (hE : Ext w w') : Trio n0 w' S o L0 p L q M :=
  ⟨h.two.ext hE, h.O.ext hE, h.rA.ext h.two.A.lt hE, h.rB.ext h.two.B.lt hE, h.ne, h.f⟩
/-- The old one works; the two others stay. -/
theorem Trio.did {o : Nat} {L0 : List Pc} {es : List EvV} {x : Ending} (h : Trio n0 w S o L0 p L q M) (hD : DidIs w S o L0 es x w') : Both n0 w' S p L q M ∧ (∃ g : Int, x = .returned (.int .i64 g)) := by
  have hk := hD.kept
  have ho := h.O.pIn
  refine ⟨⟨h.two.A.kept hk ho ho ⟨h.f.1, h.ne.1⟩ ⟨h.f.1, h.ne.1⟩ fun A c hc => (h.rA A c hc).mono fun k hk => ⟨hk.1, hk.2, hk.2⟩, h.two.B.kept hk ho ho ⟨h.f.2, h.ne.2⟩ ⟨h.f.2, h.ne.2⟩ fun A c hc => (h.rB A c hc).mono fun k hk => ⟨hk.1, hk.2, hk.2⟩,
    h.two.rA.kept' h.rA h.two.A.lt hk h.ne.1.symm, h.two.rB.kept h.rB h.two.B.lt hk h.ne.2.symm, h.two.ne, h.two.fA, h.two.fB, fun k hk' => Nat.lt_of_lt_of_le (h.two.lt k hk') hk.size, h.two.lo⟩, ?_⟩
  rcases hD.ans with ⟨-, rfl, -⟩ | ⟨-, rfl, -⟩
  · exact ⟨_, rfl⟩
  · exact ⟨_, rfl⟩
end
end Go.Proofs.YtffidnimoodniaaGreat

/- A set, and the reference's one, side by side: Load. -/
namespace Go.Proofs.YtffidnimoodniaaGreat
open Go Go.RowKit
set_option linter.unusedSimpArgs false
set_option linter.unusedVariables false

section
variable {n0 : Nat} {w w' : World} {S S' : Nat → Prop} {p q : Nat} {L M : List Pc}
/-- .. and behind a Load. -/
def loadV (bs : List UInt8) (V : List (DefV × Ents)) : List (DefV × Ents) := match ldAll (V.map (·.1)) bs with
  | some Es => (V.map (·.1)).zip Es
  | none => V
def loadX (bs : List UInt8) (V : List (DefV × Ents)) : Int := match ldAll (V.map (·.1)) bs with
  | some _ => 0
  | none => 2
theorem viewP_fst (L : List Pc) : (viewP L).map (·.1) = L.map (·.d) := by
  unfold viewP; rw [List.map_map]; rfl
theorem Both.loadA {bs : List UInt8} {x : Ending} (h : Both n0 w S p L q M) (hD : LoadIs w S p L bs x w') : x = .returned (.int .i64 (loadX bs (viewP L))) ∧ ∃ S' L', Both n0 w' S' p L' q M ∧ viewP L' = loadV bs (viewP L) := by
  unfold loadX loadV
  rw [viewP_fst]
  obtain ⟨L', S', h1, h5, h3, h4, h6, h7⟩ := hD.ans
  have hO := h.newA hD.kept h1 h5 h3 h4 h6
  rcases h7 with ⟨Es, e1, rfl, e2⟩ | ⟨e1, rfl, rfl⟩
  · rw [e1]; exact ⟨rfl, S', L', hO, e2⟩
  · rw [e1]; exact ⟨rfl, S', L', hO, rfl⟩
theorem Both.loadB {bs : List UInt8} {x : Ending} (h : Both n0 w S p L q M) (hD : SLoadIs w S q M bs x w') : x = .returned (.int .i64 (loadX bs (viewP M))) ∧ ∃ S' M', Both n0 w' S' p L q M' ∧ viewP M' = loadV bs (viewP M) := by
  unfold loadX loadV
  rw [viewP_fst]
  rcases hD.ans with ⟨Es, L', S', e1, rfl, h1, e2, h3, h4, h5, h6⟩ | ⟨e1, rfl, hE⟩
  · rw [e1]; exact ⟨rfl, S', L', h.newB hD.kept h1 h5 h3 h4 (fun k hk => .inr (h6 k hk)), e2⟩
  · rw [e1]; exact ⟨rfl, S, M, h.ext hE, rfl⟩
end
end Go.Proofs.YtffidnimoodniaaGreat

/- registrarlaw16.alike. -/
namespace Go.Proofs.YtffidnimoodniaaGreat
open Go Go.RowKit
set_option linter.unusedSimpArgs false
set_option linter.unusedVariables false

set_option maxRecDepth 100000 in
theorem setEntriesNo_at {w : World} {S : Nat → Prop} {p : Nat} {L : List Pc} (h : SetIs w S p L) (i : Int) (hi : i < 0 ∨ (L.length : Int) ≤ i) :
    Calls Tryz.prog 12 #[.pointer (some ⟨p, 0, none⟩), .int .i64 i] w fun e w' => e = .returned (.tuple #[.slice none 0 0, .int .i64 24]) ∧ w' = w := by
  obtain ⟨A, c, hc, hrow⟩ := h.row
  have c0 : w.cell? ⟨p, 0, none⟩ = some (.slice A L.length c) := by rw [cell_of_row _ _ _ _ _ _ hc]; rfl
  clear h hc hrow
  generalize L.length = n at *
  go_enter Tryz.func12, Tryz.ntmps12
  by_cases h0 : i < 0
  · go_wp2
    go_ret2
    exact ⟨rfl, rfl⟩
  · have h1 : (n : Int) ≤ i := by omega
    go_wp2
    go_ret2
    exact ⟨rfl, rfl⟩
set_option maxRecDepth 100000 in
theorem refSetEntriesNo_at {w : World} {S : Nat → Prop} {p : Nat} {L : List Pc} (h : RSetIs w S p L) (i : Int) (hi : i < 0 ∨ (L.length : Int) ≤ i) :
    Calls Tryz.prog 47 #[.pointer (some ⟨p, 0, none⟩), .int .i64 i] w fun e w' => e = .returned (.tuple #[.slice none 0 0, .int .i64 24]) ∧ w' = w := by
  obtain ⟨A, c, hc, hrow⟩ := h.row
  have c0 : w.cell? ⟨p, 0, none⟩ = some (.slice A L.length c) := by rw [cell_of_row _ _ _ _ _ _ hc]; rfl
  clear h hc hrow
  generalize L.length = n at *
  go_enter Tryz.func47, Tryz.ntmps47
  by_cases h0 : i < 0
  · go_wp2
    go_ret2
    exact ⟨rfl, rfl⟩
  · have h1 : (n : Int) ≤ i := by omega
    go_wp2
    go_ret2
    exact ⟨rfl, rfl⟩
set_option maxRecDepth 100000 in
set_option maxHeartbeats 4000000 in
theorem alike_at {n0 : Nat} {w : World} {S : Nat → Prop} {p q : Nat} {L M : List Pc} (h : Both n0 w S p L q M) (hv : viewP L = viewP M) (hf : PutFit (viewP M)) :
    Calls Tryz.prog 20 #[.pointer (some ⟨p, 0, none⟩), .pointer (some ⟨q, 0, none⟩)] w fun e w' => e = .returned (.bool true) ∧ Ext w w' := by
  have HD := hid h
  have Hv := hid hv
  have Hf := hid hf
  have Hlm := hid (show L.length = M.length ∧ L.length ≤ 4 from ⟨by rw [← viewP_len, hv, viewP_len], by rw [← viewP_len, hv]; exact hf.few⟩)
  obtain ⟨A, c, hc, hrow⟩ := h.B.row
  have Hc0 := hid (show w.cell? ⟨q, 0, none⟩ = some (.slice A L.length c) by rw [cell_of_row _ _ _ _ _ _ hc, Hlm.out.1]; rfl)
  clear h hv hf hc hrow
  obtain ⟨n, hn⟩ : ∃ n, n = L.length := ⟨_, rfl⟩
  rw [← hn] at Hc0
  have Hn := hid hn
  have hn4 : n ≤ 4 := by rw [hn]; exact Hlm.out.2
  clear hn
  go_enter Tryz.func20, Tryz.ntmps20
  go_wp2_with fail
  go_loopw [5] (fun i wr => ∃ k : Nat, k ≤ n + 2 ∧ i = .int .i64 ((k : Int) - 1) ∧ Hid (Ext w wr)) (fun i _ => (n + 2 : Nat) - (intOf i + 1).toNat)
  case atStart => exact ⟨0, by omega, rfl, hid (Below.refl _ _)⟩
  case round =>
    obtain ⟨k, hk, rfl, HE⟩ := hrel
    have HDr := hid (HD.out.ext HE.out)
    have c0 := cell_below HE.out Hc0.out
    cases k with
    | zero =>
      have e1 : (((0 : Nat) : Int) - 1) = -1 := rfl
      rw [e1]
      have hle : (-1 : Int) ≤ (n : Int) := by omega
      -- no such state: both say so
      have hc1 := setEntriesNo_at HDr.out.A (-1) (by omega)
      have hc2 := refSetEntriesNo_at HDr.out.B (-1) (by have := Hlm.out; omega)
      have hc3 := same_at (slR_nil (R := REnt) wr (fun _ => True)) (slR_nil (R := REnt) wr (fun _ => True))
      rw [decide_eq_true (rfl : ([] : Ents) = [])] at hc3
      go_wp2_with fail
      refine hc1.mono ?_
      clear hc1
      rintro e wx ⟨rfl, hw⟩
      obtain rfl : wr = wx := hw.symm
      clear hw
      go_wp2_with fail
      refine hc2.mono ?_
      clear hc2
      rintro e wx ⟨rfl, hw⟩
      obtain rfl : wr = wx := hw.symm
      clear hw
      go_wp2_with fail
      refine hc3.mono ?_
      clear hc3
      rintro e w14 ⟨rfl, hE10⟩
      have HE10 := hid (HE.out.trans' hE10)
      clear hE10
      go_wp2_with fail
      go_roundw
      case rel => exact ⟨1, by omega, by go_num, HE10⟩
      case measure => simp [intOf]
    | succ j =>
      have e1 : (((j + 1 : Nat) : Int) - 1) = (j : Int) := by omega
      rw [e1]
      by_cases hjn : j ≤ n
      · have hle : (j : Int) ≤ (n : Int) := by omega
        by_cases hlt : j < n
        · have hk9 : j < L.length := by rw [← Hn.out]; exact hlt
          have hk11 : j < M.length := by rw [← Hlm.out.1]; exact hk9
          have hDD : L[j].D = M[j].D := by
            have h1 : (viewP L)[j]'(by rw [viewP_len]; exact hk9) = (viewP M)[j]'(by rw [viewP_len]; exact hk11) := by simp only [Hv.out]
            unfold viewP at h1
            simp only [List.getElem_map, Prod.mk.injEq] at h1
            exact h1.2
          have hDl : M[j].D.length ≤ 20000 := (Hf.out.row (M[j].d, M[j].D) (List.mem_map.2 ⟨_, List.getElem_mem hk11, rfl⟩)).len
          have hcc := setEntries_at HDr.out.A j hk9 (by have := Hlm.out; omega) (by rw [hDD]; omega)
          rw [hDD] at hcc
          have HB := hid (show ∀ w8, Ext wr w8 → Calls Tryz.prog 47 #[.pointer (some ⟨q, 0, none⟩), .int .i64 (j : Int)] w8 fun e w' => ToldIs w8 M[j].D e w' from fun w8 hE => refSetEntries_at (HDr.out.B.ext hE) j hk11 (by have := Hlm.out; omega) (by omega))
          clear hDD hDl
          generalize M[j].D = D at *
          clear hk9 hk11
          go_wp2_with fail
          refine hcc.mono ?_
          clear hcc c0
          rintro e w12 ⟨hE8, Aa, ca, rfl, hRa⟩
          have HRa := hid hRa; have HE8 := hid (HE.out.trans' hE8)
          have hcc := HB.out w12 hE8
          clear hE8 hRa HB
          generalize hdl : D.length = dl at *
          go_wp2_with fail
          refine hcc.mono ?_
          clear hcc
          rintro e w13 ⟨hE9, Ab, cb, rfl, hRb⟩
          rw [hdl] at hRb ⊢
          clear hdl
          have hcc := same_at (HRa.out.grow hE9) hRb
          rw [decide_eq_true (rfl : D = D)] at hcc
          have HE9 := hid (HE8.out.trans' hE9)
          clear hE9 hRb HRa
          go_wp2_with fail
          refine hcc.mono ?_
          clear hcc
          rintro e w14 ⟨rfl, hE10⟩
          have HE10 := hid (HE9.out.trans' hE10)
          clear hE10
          go_wp2_with fail
          go_roundw
          case rel => exact ⟨j + 2, by omega, by go_num, HE10⟩
          case measure => simp [intOf]; omega
        · obtain rfl : j = n := by omega
          have hln : ¬ ((j : Int) < (L.length : Int)) := by have := Hn.out; omega
          have hln2 : (L.length : Int) ≤ (j : Int) := by omega
          -- no such state: both say so
          have hc1 := setEntriesNo_at HDr.out.A ((j : Int)) (by omega)
          have hc2 := refSetEntriesNo_at HDr.out.B ((j : Int)) (by have := Hlm.out; omega)
          have hc3 := same_at (slR_nil (R := REnt) wr (fun _ => True)) (slR_nil (R := REnt) wr (fun _ => True))
          rw [decide_eq_true (rfl : ([] : Ents) = [])] at hc3
          go_wp2_with fail
          refine hc1.mono ?_
          clear hc1
          rintro e wx ⟨rfl, hw⟩
          obtain rfl : wr = wx := hw.symm
          clear hw
          go_wp2_with fail
          refine hc2.mono ?_
          clear hc2
          rintro e wx ⟨rfl, hw⟩
          obtain rfl : wr = wx := hw.symm
          clear hw
          go_wp2_with fail
          refine hc3.mono ?_
          clear hc3
          rintro e w14 ⟨rfl, hE10⟩
          have HE10 := hid (HE.out.trans' hE10)
          clear hE10
          go_wp2_with fail
          go_roundw
          case rel => exact ⟨j + 2, by omega, by go_num, HE10⟩
          case measure => simp [intOf]; omega
      · have hle : ¬ ((j : Int) ≤ (n : Int)) := by omega
        have HpA := hid (show PutFit (viewP L) by rw [Hv.out]; exact Hf.out)
        have HpB := Hf
        have Hcr := hid c0
        go_wp2_with fail
        clear c0
        apply wp_drawn [isV _, isV (.int .i64 (n : Int)), isV _, isV _, isV _, isV _, isV _, isV (.bool true), isV _, isV _, obX w.heap.size (setB (viewP M)), isV (.string (str (setB (viewP M)))), isV _, obX w.heap.size (setB (viewP M)), isV (.string (str (setB (viewP M)))), isV (.bool true), isV _, isV _] (by kernel_rfl)
        · kernel_rfl
        · refine ⟨?als0, ?als1, ?als2, ?als3, ?als4, ?als5, ?als6, ?als7, ?als8, ?als9, ?als10, ?als11, ?als12, ?als13, ?als14, ?als15, ?als16, ?als17, trivial⟩
          case als0 =>
            intro v W hE hd; simp only [Region.wanted, ↓reduceIte]; (try simp [deps, waitsOn, Region.binds, knowing, isV, ownsV, anyV] at hd); simp only [putAll, List.take_succ_cons, List.take_zero, List.drop_succ_cons, List.drop_zero, Act.put, List.setIfInBounds_toArray, List.set_cons_zero, List.set_cons_succ, Nat.zero_add, Nat.reduceAdd]; go_simp; exact ⟨Below.refl _ _, rfl⟩
          case als1 =>
            intro v W hE hd; simp only [Region.wanted, ↓reduceIte]; (try simp [deps, waitsOn, Region.binds, knowing, isV, ownsV, anyV] at hd); simp only [putAll, List.take_succ_cons, List.take_zero, List.drop_succ_cons, List.drop_zero, Act.put, List.setIfInBounds_toArray, List.set_cons_zero, List.set_cons_succ, Nat.zero_add, Nat.reduceAdd]
            have hcc := setMany_at (HDr.out.A.ext hE)
            rw [← Hn.out] at hcc
            go_simp
            refine hcc.mono ?_
            rintro e w' ⟨rfl, rfl⟩
            go_simp
            exact ⟨Below.refl _ _, rfl⟩
          case als2 =>
            intro v W hE hd; simp only [Region.wanted, ↓reduceIte]; (try simp [deps, waitsOn, Region.binds, knowing, isV, ownsV, anyV] at hd); simp only [putAll, List.take_succ_cons, List.take_zero, List.drop_succ_cons, List.drop_zero, Act.put, List.setIfInBounds_toArray, List.set_cons_zero, List.set_cons_succ, Nat.zero_add, Nat.reduceAdd]; go_simp; exact ⟨Below.refl _ _, rfl⟩
          case als3 =>
            intro v W hE hd; simp only [Region.wanted, ↓reduceIte]; (try simp [deps, waitsOn, Region.binds, knowing, isV, ownsV, anyV] at hd); simp only [putAll, List.take_succ_cons, List.take_zero, List.drop_succ_cons, List.drop_zero, Act.put, List.setIfInBounds_toArray, List.set_cons_zero, List.set_cons_succ, Nat.zero_add, Nat.reduceAdd]; go_simp; exact ⟨Below.refl _ _, rfl⟩
          case als4 =>
            intro v W hE hd; simp only [Region.wanted, ↓reduceIte]; (try simp [deps, waitsOn, Region.binds, knowing, isV, ownsV, anyV] at hd); simp only [putAll, List.take_succ_cons, List.take_zero, List.drop_succ_cons, List.drop_zero, Act.put, List.setIfInBounds_toArray, List.set_cons_zero, List.set_cons_succ, Nat.zero_add, Nat.reduceAdd]; go_simp; exact ⟨Below.refl _ _, rfl⟩
          case als5 =>
            intro v W hE hd; simp only [Region.wanted, ↓reduceIte]; (try simp [deps, waitsOn, Region.binds, knowing, isV, ownsV, anyV] at hd); simp only [putAll, List.take_succ_cons, List.take_zero, List.drop_succ_cons, List.drop_zero, Act.put, List.setIfInBounds_toArray, List.set_cons_zero, List.set_cons_succ, Nat.zero_add, Nat.reduceAdd]
            have c1 := cell_below hE Hcr.out
            go_simp
            exact ⟨Below.refl _ _, rfl⟩
          case als6 =>
            intro v W hE hd; simp only [Region.wanted, ↓reduceIte]; (try simp [deps, waitsOn, Region.binds, knowing, isV, ownsV, anyV] at hd); simp only [putAll, List.take_succ_cons, List.take_zero, List.drop_succ_cons, List.drop_zero, Act.put, List.setIfInBounds_toArray, List.set_cons_zero, List.set_cons_succ, Nat.zero_add, Nat.reduceAdd]; go_simp; exact ⟨Below.refl _ _, rfl⟩
          case als7 =>
            intro v W hE hd; simp only [Region.wanted, ↓reduceIte]; (try simp [deps, waitsOn, Region.binds, knowing, isV, ownsV, anyV] at hd); simp only [putAll, List.take_succ_cons, List.take_zero, List.drop_succ_cons, List.drop_zero, Act.put, List.setIfInBounds_toArray, List.set_cons_zero, List.set_cons_succ, Nat.zero_add, Nat.reduceAdd]
            go_simp
            exact ⟨Below.refl _ _, rfl⟩
          case als8 =>
            intro v W hE hd; simp only [Region.wanted, ↓reduceIte]; (try simp [deps, waitsOn, Region.binds, knowing, isV, ownsV, anyV] at hd); simp only [putAll, List.take_succ_cons, List.take_zero, List.drop_succ_cons, List.drop_zero, Act.put, List.setIfInBounds_toArray, List.set_cons_zero, List.set_cons_succ, Nat.zero_add, Nat.reduceAdd]; go_simp; exact ⟨Below.refl _ _, rfl⟩
          case als9 =>
            intro v W hE hd; (try simp [deps, waitsOn, Region.binds, knowing, isV, ownsV, anyV] at hd); simp only [putAll, List.take_succ_cons, List.take_zero, List.drop_succ_cons, List.drop_zero, Act.put, List.setIfInBounds_toArray, List.set_cons_zero, List.set_cons_succ, Nat.zero_add, Nat.reduceAdd]; rw [if_pos (by simp [Region.wanted, yielded, hd])]; go_simp; exact ⟨Below.refl _ _, rfl⟩
          case als10 =>
            intro v W hE hd; (try simp [deps, waitsOn, Region.binds, knowing, isV, ownsV, anyV] at hd); simp only [putAll, List.take_succ_cons, List.take_zero, List.drop_succ_cons, List.drop_zero, Act.put, List.setIfInBounds_toArray, List.set_cons_zero, List.set_cons_succ, Nat.zero_add, Nat.reduceAdd]; rw [if_pos (by simp [Region.wanted, yielded, hd])]
            have hcc := setPut_at (HDr.out.A.ext hE) HpA.out
            rw [Hv.out] at hcc
            go_simp
            refine hcc.mono ?_
            clear hcc
            rintro e w' ⟨hE2, v', rfl, hO⟩
            have HOo := hid hO; have HEe := hid hE2
            clear hO hE2
            go_simp
            exact ⟨HEe.out, OB.base HOo.out (by have := hE.size; have := HE.out.size; omega)⟩
          case als11 =>
            intro v W hE hd; (try simp [deps, waitsOn, Region.binds, knowing, isV, ownsV, anyV] at hd); simp only [putAll, List.take_succ_cons, List.take_zero, List.drop_succ_cons, List.drop_zero, Act.put, List.setIfInBounds_toArray, List.set_cons_zero, List.set_cons_succ, Nat.zero_add, Nat.reduceAdd]; rw [if_pos (by simp [Region.wanted, yielded, hd])]
            have h3 : OB W w.heap.size (v 10) (setB (viewP M)) := hd.1
            obtain ⟨A3, n3, c3, e3, rfl, -, hr3⟩ := OB.rd h3
            have hs := run_str hr3 c3
            rw [e3]
            clear h3 hr3
            go_simp
            exact ⟨Below.refl _ _, rfl⟩
          case als12 =>
            intro v W hE hd; (try simp [deps, waitsOn, Region.binds, knowing, isV, ownsV, anyV] at hd); simp only [putAll, List.take_succ_cons, List.take_zero, List.drop_succ_cons, List.drop_zero, Act.put, List.setIfInBounds_toArray, List.set_cons_zero, List.set_cons_succ, Nat.zero_add, Nat.reduceAdd]; rw [if_pos (by simp [Region.wanted, yielded, hd])]; go_simp; exact ⟨Below.refl _ _, rfl⟩
          case als13 =>
            intro v W hE hd; (try simp [deps, waitsOn, Region.binds, knowing, isV, ownsV, anyV] at hd); simp only [putAll, List.take_succ_cons, List.take_zero, List.drop_succ_cons, List.drop_zero, Act.put, List.setIfInBounds_toArray, List.set_cons_zero, List.set_cons_succ, Nat.zero_add, Nat.reduceAdd]; rw [if_pos (by simp [Region.wanted, yielded, hd])]
            have hcc := refSetPut_at (HDr.out.B.ext hE) HpB.out
            go_simp
            refine hcc.mono ?_
            clear hcc
            rintro e w' ⟨hE2, v', rfl, hO⟩
            have HOo := hid hO; have HEe := hid hE2
            clear hO hE2
            go_simp
            exact ⟨HEe.out, OB.base HOo.out (by have := hE.size; have := HE.out.size; omega)⟩
          case als14 =>
            intro v W hE hd; (try simp [deps, waitsOn, Region.binds, knowing, isV, ownsV, anyV] at hd); simp only [putAll, List.take_succ_cons, List.take_zero, List.drop_succ_cons, List.drop_zero, Act.put, List.setIfInBounds_toArray, List.set_cons_zero, List.set_cons_succ, Nat.zero_add, Nat.reduceAdd]; rw [if_pos (by simp [Region.wanted, yielded, hd])]
            have h3 : OB W w.heap.size (v 13) (setB (viewP M)) := hd.1
            obtain ⟨A3, n3, c3, e3, rfl, -, hr3⟩ := OB.rd h3
            have hs := run_str hr3 c3
            rw [e3]
            clear h3 hr3
            go_simp
            exact ⟨Below.refl _ _, rfl⟩
          case als15 =>
            intro v W hE hd; (try simp [deps, waitsOn, Region.binds, knowing, isV, ownsV, anyV] at hd); simp only [putAll, List.take_succ_cons, List.take_zero, List.drop_succ_cons, List.drop_zero, Act.put, List.setIfInBounds_toArray, List.set_cons_zero, List.set_cons_succ, Nat.zero_add, Nat.reduceAdd]; rw [if_pos (by simp [Region.wanted, yielded, hd])]
            go_simp
            exact ⟨Below.refl _ _, rfl⟩
          case als16 =>
            intro v W hE hd; simp only [Region.wanted, ↓reduceIte]; (try simp [deps, waitsOn, Region.binds, knowing, isV, ownsV, anyV] at hd); simp only [putAll, List.take_succ_cons, List.take_zero, List.drop_succ_cons, List.drop_zero, Act.put, List.setIfInBounds_toArray, List.set_cons_zero, List.set_cons_succ, Nat.zero_add, Nat.reduceAdd]; go_simp; exact ⟨Below.refl _ _, rfl⟩
          case als17 =>
            intro v W hE hd; simp only [Region.wanted, ↓reduceIte]; (try simp [deps, waitsOn, Region.binds, knowing, isV, ownsV, anyV] at hd); simp only [putAll, List.take_succ_cons, List.take_zero, List.drop_succ_cons, List.drop_zero, Act.put, List.setIfInBounds_toArray, List.set_cons_zero, List.set_cons_succ, Nat.zero_add, Nat.reduceAdd]; go_simp; exact ⟨Below.refl _ _, rfl⟩
        · rintro v W9 hE ⟨-, -, -, -, -, -, -, -, -, -, -, -, -, -, -, -, -, e17, -⟩
          have e17 := (show v 17 = _ from e17)
          simp only [putAll, List.take_succ_cons, List.take_zero, List.drop_succ_cons, List.drop_zero, Act.put, List.setIfInBounds_toArray, List.set_cons_zero, List.set_cons_succ, Nat.zero_add, Nat.reduceAdd]
          have HEf := hid (HE.out.trans' hE)
          rw [e17]
          clear hE e17
          go_wp2
          go_ret
          exact ⟨rfl, HEf.out⟩
end Go.Proofs.YtffidnimoodniaaGreat

/- What is known while the same is done to a set and to the reference's one. -/
namespace Go.Proofs.YtffidnimoodniaaGreat
open Go Go.RowKit
set_option linter.unusedSimpArgs false
set_option linter.unusedVariables false

theorem setIs_blk {w : World} {S S' : Nat → Prop} {p : Nat} {L L' : List Pc} (h : SetIs w S p L) (h' : SetIs w S' p L') {k : Nat} (hk : Blk L k) : Blk L' k := by
  obtain ⟨A, c, q1, q2⟩ := h.row
  obtain ⟨A', c', q3, q4⟩ := h'.row
  rw [q1] at q3
  simp only [Option.some.injEq, Obj.cells.injEq, Array.mk.injEq, List.cons.injEq, Value.slice.injEq, and_true, true_and] at q3
  obtain ⟨rfl, hl, rfl⟩ := q3
  obtain ⟨x, hx, hk⟩ := hk
  obtain ⟨i, hi, rfl⟩ := List.getElem_of_mem hx
  have hi' : i < L'.length := by omega
  obtain ⟨b, o, e1, -, f1⟩ := ptr_at q2 i (by rw [List.length_map]; exact hi)
  obtain ⟨b2, o2, e2, -, f2⟩ := ptr_at q4 i (by rw [List.length_map]; exact hi')
  rw [e1] at e2
  simp only [Option.some.injEq, Addr.mk.injEq, and_true] at e2
  obtain ⟨rfl, rfl⟩ := e2
  rw [f1] at f2
  simp only [List.getElem_map, Option.some.injEq, Value.pointer.injEq, Addr.mk.injEq, and_true] at f2
  have hs1 := h.pcs.each _ (List.getElem_mem hi)
  have hs2 := h'.pcs.each _ (List.getElem_mem hi')
  obtain ⟨B1, d1, r1, -⟩ := hs1.row
  obtain ⟨B2, d2, r2, -⟩ := hs2.row
  rw [f2, r2] at r1
  simp only [Option.some.injEq, Obj.cells.injEq, Array.mk.injEq, List.cons.injEq, Value.map.injEq, and_true, true_and] at r1
  refine ⟨L'[i], List.getElem_mem hi', ?_⟩
  rcases hk with rfl | rfl
  · exact .inl f2
  · exact .inr r1.2.2.symm
section
variable {n0 : Nat} {w w' : World} {S0 S S' : Nat → Prop} {p q z : Nat} {L M : List Pc}
theorem Both.less (h : Both n0 w S p L q M) (hS : ∀ k, S' k → S k) (hb : ∀ k, Blk L k → S' k) (hb2 : ∀ k, Blk M k → S' k) (hp : S' p) (hq : S' q) : Both n0 w S' p L q M :=
  ⟨h.A.less hS hb hp, h.B.less hS hb2 hq, h.rA, h.rB, h.ne, h.fA, h.fB, fun k hk => h.lt k (hS k hk), fun k hk => h.lo k (hS k hk)⟩
/-- What is known of the first, when the second works. -/
structure Half (n0 : Nat) (S0 : Nat → Prop) (w : World) (S : Nat → Prop) (p : Nat) (L : List Pc) (z : Nat) : Prop where
  A : SetIs w S p L
  rA : RowNe w p L z
  fA : ¬ Blk L z
  ne : p ≠ z
  zIn : S z
  up : ∀ k, S0 k → S k
  lt : ∀ k, S k → k < w.heap.size
  lo : ∀ k, S k → n0 ≤ k
theorem Both.half (h : Both n0 w S p L z M) (hu : ∀ k, S0 k → S k) : Half n0 S0 w S p L z := ⟨h.A, h.rA, h.fA, h.ne, h.B.pIn, hu, h.lt, h.lo⟩
theorem Half.ext (h : Half n0 S0 w S p L z) (hE : Ext w w') : Half n0 S0 w' S p L z :=
  ⟨h.A.ext hE, h.rA.ext h.A.lt hE, h.fA, h.ne, h.zIn, h.up, fun k hk => Nat.lt_of_lt_of_le (h.lt k hk) hE.size, h.lo⟩
theorem Half.kept (h : Half n0 S0 w S p L z) (hk : Kept2 z z w w') : Half n0 S0 w' S p L z :=
  ⟨h.A.kept hk h.zIn h.zIn ⟨h.fA, h.ne.symm⟩ ⟨h.fA, h.ne.symm⟩ fun A c hc => (h.rA A c hc).mono fun k hk => ⟨hk.1, hk.2, hk.2⟩, h.rA.kept h.A.lt hk h.ne, h.fA, h.ne, h.zIn, h.up, fun k hk' => Nat.lt_of_lt_of_le (h.lt k hk') hk.size, h.lo⟩
end
/-- Records aside of what turns. -/
def rsX (S : Nat → Prop) (rs : List (Int × Int × EvV)) : SPred := ⟨fun v w => ∃ A c, v = .slice A rs.length c ∧ SlR RRec w (Out S w) A rs.length c rs, fun _ _ _ ⟨A, c, e, h⟩ hE => ⟨A, c, e, slR_more h hE fun _ hk => .inl hk⟩⟩
def hfX (n0 : Nat) (S0 : Nat → Prop) (p z : Nat) (g : Int) : SPred := ⟨fun v w => v = .int .i64 g ∧ ∃ S L, Half n0 S0 w S p L z, fun _ _ _ ⟨e, S, L, h⟩ hE => ⟨e, S, L, h.ext hE⟩⟩
def rcX (n0 : Nat) (S0 : Nat → Prop) (p z : Nat) (rs : List (Int × Int × EvV)) : SPred := ⟨fun v w => ∃ A c S L, v = .slice A rs.length c ∧ Half n0 S0 w S p L z ∧ SlR RRec w (Out S w) A rs.length c rs, fun _ _ _ ⟨A, c, S, L, e, h1, h2⟩ hE => ⟨A, c, S, L, e, h1.ext hE, slR_more h2 hE fun _ hk => .inl hk⟩⟩
/-- What the first call turns. -/
def TpX (n0 : Nat) (S0 : Nat → Prop) (p z : Nat) (w w' : World) : Prop := Kept2 p p w w' ∧ ∃ S L, Half n0 S0 w' S p L z ∧ ∀ k, S k → S0 k ∨ w.heap.size ≤ k
theorem rsX_t {S : Nat → Prop} {rs : List (Int × Int × EvV)} {v : Value} {w w' : World} {z : Nat} (hz : S z) (hk : Kept2 z z w w') (h : (rsX S rs).p v w) : (rsX S rs).p v w' := by
  obtain ⟨A, c, e, h⟩ := h
  exact ⟨A, c, e, slR_kept h hk hz hz⟩
theorem hfX_t {n0 : Nat} {S0 : Nat → Prop} {p z : Nat} {g : Int} {v : Value} {w w' : World} (hk : Kept2 z z w w') (h : (hfX n0 S0 p z g).p v w) : (hfX n0 S0 p z g).p v w' := by
  obtain ⟨e, S, L, h⟩ := h
  exact ⟨e, S, L, h.kept hk⟩
theorem rcX_t {n0 : Nat} {S0 : Nat → Prop} {p z : Nat} {rs : List (Int × Int × EvV)} {v : Value} {w w' : World} (hk : Kept2 z z w w') (h : (rcX n0 S0 p z rs).p v w) : (rcX n0 S0 p z rs).p v w' := by
  obtain ⟨A, c, S, L, e, h1, h2⟩ := h
  exact ⟨A, c, S, L, e, h1.kept hk, slR_kept h2 hk h1.zIn h1.zIn⟩
theorem rcX_p {n0 : Nat} {S0 : Nat → Prop} {p z : Nat} {rs : List (Int × Int × EvV)} {v : Value} {w w' : World} (hp : S0 p) (hk : TpX n0 S0 p z w w') (h : (rcX n0 S0 p z rs).p v w) : (rcX n0 S0 p z rs).p v w' := by
  obtain ⟨A, c, S, L, e, h1, h2⟩ := h
  obtain ⟨k1, S', L', k2, k3⟩ := hk
  exact ⟨A, c, S', L', e, k2, (h2.ext fun k hk => k1.block k hk.1 (fun e => hk.2 (e ▸ h1.up p hp)) (fun e => hk.2 (e ▸ h1.up p hp))).mono fun k hk => ⟨Nat.lt_of_lt_of_le hk.1 k1.size, fun h' => (k3 k h').elim (fun h'' => hk.2 (h1.up k h'')) fun h'' => by have := hk.1; omega⟩⟩
/-- What may be folded by the reference. -/
def OkV (V : List (DefV × Ents)) : Prop := ∀ x ∈ V, OkR x.1 x.2 ∧ 1 ≤ x.1.kind ∧ x.1.kind ≤ 4
theorem okV_new {ds : List DefV} (h : ∀ d ∈ ds, mayDef d = 0) : OkV (ds.map fun d => (d, [])) := fun x hx => by
  obtain ⟨d, hd, rfl⟩ := List.mem_map.1 hx
  exact ⟨⟨List.Pairwise.nil, fun _ p hp => by simp at hp, fun _ => rfl⟩, may_kind (h d hd)⟩
theorem OkV.after {V : List (DefV × Ents)} (h : OkV V) (es : List EvV) : OkV (afterV es V) := by
  unfold afterV
  split
  · intro x hx
    unfold runAll at hx
    obtain ⟨y, hy, rfl⟩ := List.mem_map.1 hx
    exact ⟨okR_fold es (h y hy).1, (h y hy).2⟩
  · exact h
theorem OkV.load {V : List (DefV × Ents)} (h : OkV V) (bs : List UInt8) : OkV (loadV bs V) := by
  unfold loadV
  split
  · rename_i Es hE
    intro x hx
    have hi := (ldAll_inv hE).2.2 x hx
    refine ⟨?_, ?_⟩
    · have := (okR_load (d := x.1) (l := x.2)).1
      rwa [loadF_ok hi.1] at this
    · obtain ⟨y, hy, e⟩ := List.mem_map.1 (List.of_mem_zip hx).1
      rw [← e]
      exact (h y hy).2
  · exact h
theorem FarV.after {B : Int} {N n m : Nat} {V : List (DefV × Ents)} {es : List EvV} (h : FarV B N n V) (hs : ∀ e ∈ es, mayEv e = 0) (he : es.length ≤ m) (hm : m ≤ n) : FarV (B + 1000 * (m : Int)) (N + 6 * m) (n - m) (afterV es V) := by
  unfold afterV
  split
  · exact h.next hs he hm
  · have h4 := h.hi; have h5 := h.lim; have h6 := h.lo
    exact ⟨h.few, fun x hx => (h.key x hx).le (by omega), fun x hx => (h.fit x hx).le (by omega), by omega, by omega, by omega⟩
theorem farV_loadV {ds : List DefV} {bs : List UInt8} (hd : ds.length ≤ 4) (hb : bs.length ≤ 400) : FarV 1125899906842624 400 400 (loadV bs (ds.map fun d => (d, []))) := by
  unfold loadV
  have e : (ds.map fun d => (d, ([] : Ents))).map (·.1) = ds := by rw [List.map_map]; exact List.map_id _
  rw [e]
  split
  · rename_i Es hE; exact farV_load hd hb hE
  · exact (farV_new hd).le (by decide) (by decide)
end Go.Proofs.YtffidnimoodniaaGreat
