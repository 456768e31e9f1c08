/- A set, and the reference's one, side by side. -/
import Derived.Test.YtakebdeldndaaaaGreatDoorLd
import Derived.Test.YtakebdeldndaaaaGreatDoorRs
namespace Go.Proofs.YtakebdeldndaaaaGreatDoor
open Go Go.RowKit
set_option linter.unusedSimpArgs false
set_option linter.unusedVariables false

def SRowNe (w : World) (p : Nat) (L : List Pc) (b : Nat) : Prop := ∀ A c, w.heap[p]? = some (.cells #[.slice A L.length c] 153) → SlR Rep.ptr w (fun k => Free L p w k ∧ k ≠ b) A L.length c (L.map (·.s))
section
variable {w w' : World} {S S' : Nat → Prop} {p : Nat} {L : List Pc}
theorem srowNe_of_lo {n b : Nat} (h : SRowLo w n p L) (hb : b < n) : SRowNe w p L b := by
  intro A c hc
  obtain ⟨A', c', h1, h2⟩ := h.row
  rw [h1] at hc
  simp only [Option.some.injEq, Obj.cells.injEq, Array.mk.injEq, List.cons.injEq, Value.slice.injEq, and_true, true_and] at hc
  obtain ⟨rfl, rfl⟩ := hc
  exact h2.mono fun k hk => ⟨hk.1, by have := hk.2; omega⟩
theorem srowNe_of_young {b : Nat} (h : RSetIs w S p L) (hb : w.heap.size ≤ b) : SRowNe w p L b := by
  intro A c hc
  obtain ⟨A', c', h1, h2⟩ := h.row
  rw [h1] at hc
  simp only [Option.some.injEq, Obj.cells.injEq, Array.mk.injEq, List.cons.injEq, Value.slice.injEq, and_true, true_and] at hc
  obtain ⟨rfl, rfl⟩ := hc
  exact h2.mono fun k hk => ⟨hk, by have := hk.1; omega⟩
theorem SRowNe.kept {a b : Nat} (h : SRowNe w p L b) (ha : SRowNe w p L a) (hp : p < w.heap.size) (hk : Kept2 a a w w') (hpb : p ≠ a) : SRowNe w' p L b := by
  intro A c hc
  rw [hk.block p hp hpb hpb] at hc
  have h1 := ha A c hc
  have h2 := h A c hc
  obtain ⟨n1, n2, n3, cs, hr, hv⟩ := h1
  obtain ⟨-, -, -, cs2, hr2, hv2⟩ := h2
  have e : cs = cs2 := by
    have f : ∀ {K K' : Nat → Prop} {xs : List Nat} {u v : List Value}, Rows Rep.ptr w K xs u → Rows Rep.ptr w K' xs v → u = v := by
      intro K K' xs
      induction xs with
      | nil => intro u v h1 h2; rw [show u = [] from h1, show v = [] from h2]
      | cons x xs ih =>
        rintro u v ⟨c1, r1, e1, hc1, hr1⟩ ⟨c2, r2, e2, hc2, hr2⟩
        rw [e1, e2, show c1 = _ from hc1, show c2 = _ from hc2, ih hr1 hr2]
    exact f hr hr2
  subst e
  refine ⟨n1, n2, n3, cs, rows_ptr hr, ?_⟩
  rcases hv with hv | ⟨b1, o, e1, hb1, hv⟩
  · exact .inl hv
  · rcases hv2 with hv2 | ⟨b2, o2, e2, hb2, hv2⟩
    · exact .inl hv2
    · rw [e1] at e2
      simp only [Option.some.injEq, Addr.mk.injEq, and_true] at e2
      obtain ⟨rfl, rfl⟩ := e2
      refine .inr ⟨b1, o, e1, ⟨⟨Nat.lt_of_lt_of_le hb1.1.1 hk.size, hb1.1.2⟩, hb2.2⟩, fun j u hu => ?_⟩
      have h4 := hv j u hu
      have h3 := hk.block b1 hb1.1.1 hb1.2 hb1.2
      have e : w'.cell? ⟨b1, o + j, none⟩ = w.cell? ⟨b1, o + j, none⟩ := by unfold World.cell?; dsimp only; rw [h3]
      rw [e]; exact h4
theorem SRowNe.ext {b : Nat} (h : SRowNe w p L b) (hp : p < w.heap.size) (hE : Ext w w') : SRowNe w' p L b := by
  intro A c hc
  rw [hE.block p hp] at hc
  exact ((h A c hc).ext fun k hk => hE.block k hk.1.1).mono fun k hk => ⟨⟨Nat.lt_of_lt_of_le hk.1.1 hE.size, hk.1.2⟩, hk.2⟩
theorem RowNe.kept' {a b : Nat} (h : RowNe w p L b) (ha : RowNe w p L a) (hp : p < w.heap.size) (hk : Kept2 a a w w') (hpb : p ≠ a) : RowNe w' p L b := by
  intro A c hc
  rw [hk.block p hp hpb hpb] at hc
  have h1 := ha A c hc
  have h2 := h A c hc
  obtain ⟨n1, n2, n3, cs, hr, hv⟩ := h1
  obtain ⟨-, -, -, cs2, hr2, hv2⟩ := h2
  have e : cs = cs2 := by
    have f : ∀ {K K' : Nat → Prop} {xs : List Nat} {u v : List Value}, Rows Rep.ptr w K xs u → Rows Rep.ptr w K' xs v → u = v := by
      intro K K' xs
      induction xs with
      | nil => intro u v h1 h2; rw [show u = [] from h1, show v = [] from h2]
      | cons x xs ih =>
        rintro u v ⟨c1, r1, e1, hc1, hr1⟩ ⟨c2, r2, e2, hc2, hr2⟩
        rw [e1, e2, show c1 = _ from hc1, show c2 = _ from hc2, ih hr1 hr2]
    exact f hr hr2
  subst e
  refine ⟨n1, n2, n3, cs, rows_ptr hr, ?_⟩
  rcases hv with hv | ⟨b1, o, e1, hb1, hv⟩
  · exact .inl hv
  · rcases hv2 with hv2 | ⟨b2, o2, e2, hb2, hv2⟩
    · exact .inl hv2
    · rw [e1] at e2
      simp only [Option.some.injEq, Addr.mk.injEq, and_true] at e2
      obtain ⟨rfl, rfl⟩ := e2
      refine .inr ⟨b1, o, e1, ⟨⟨Nat.lt_of_lt_of_le hb1.1.1 hk.size, hb1.1.2⟩, hb2.2⟩, fun j u hu => ?_⟩
      have h4 := hv j u hu
      have h3 := hk.block b1 hb1.1.1 hb1.2 hb1.2
      have e : w'.cell? ⟨b1, o + j, none⟩ = w.cell? ⟨b1, o + j, none⟩ := by unfold World.cell?; dsimp only; rw [h3]
      rw [e]; exact h4
end
structure Both (n0 : Nat) (w : World) (S : Nat → Prop) (p : Nat) (L : List Pc) (q : Nat) (M : List Pc) : Prop where
  A : SetIs w S p L
  B : RSetIs w S q M
  rA : RowNe w p L q
  rB : SRowNe w q M p
  ne : p ≠ q
  fA : ¬ Blk L q
  fB : ¬ Blk M p
  lt : ∀ k, S k → k < w.heap.size
  lo : ∀ k, S k → n0 ≤ k
section
variable {n0 : Nat} {w w' : World} {S S' : Nat → Prop} {p q : Nat} {L M : List Pc}
theorem Both.ext (h : Both n0 w S p L q M) (hE : Ext w w') : Both n0 w' S p L q M :=
  ⟨h.A.ext hE, h.B.ext hE, h.rA.ext h.A.lt hE, h.rB.ext h.B.lt hE, h.ne, h.fA, h.fB, fun k hk => Nat.lt_of_lt_of_le (h.lt k hk) hE.size, h.lo⟩
theorem both_new {w1 w2 : World} {S1 S2 : Nat → Prop} {n : Nat} (h1 : SetIs w1 S1 p L) (hb1 : ∀ k, Blk L k ∨ k = p → n ≤ k ∧ k < w1.heap.size) (hE : Ext w1 w2)
    (h2 : RSetIs w2 S2 q M) (hR2 : SRowLo w2 w1.heap.size q M) (hb2 : ∀ k, Blk M k ∨ k = q → w1.heap.size ≤ k ∧ k < w2.heap.size) (hS2 : ∀ k, n ≤ k → k < w1.heap.size → S2 k) :
    Both n w2 (fun k => (k = p ∨ Blk L k) ∨ (k = q ∨ Blk M k)) p L q M := by
  have hp := hb1 p (.inr rfl)
  have hq := (hb2 q (.inr rfl)).1
  refine ⟨?_, ?_, (rowNe_of_young h1 hq).ext hp.2 hE, srowNe_of_lo hR2 hp.2, by omega, fun h => by have := (hb1 q (.inl h)).2; omega, fun h => by have := (hb2 p (.inl h)).1; omega, fun k hk => ?_, fun k hk => ?_⟩
  · refine (h1.less (S' := fun k => k = p ∨ Blk L k) (fun k hk => ?_) (fun k hk => .inr hk) (.inl rfl)).more hE (fun k hk => ?_) fun k hk => .inl hk
    · rcases hk with rfl | hk
      · exact h1.pIn
      · exact (h1.pcs.lt hk).2
    · exact hk.imp id fun h => (hb2 k h.symm).1
  · refine h2.less (fun k hk => ?_) (fun k hk => .inr (.inr hk)) (.inr (.inl rfl))
    rcases hk with hk | rfl | hk
    · exact hS2 k (hb1 k hk.symm).1 (hb1 k hk.symm).2
    · exact h2.pIn
    · exact (h2.pcs.lt hk).2
  · have := hE.size
    rcases hk with hk | hk
    · have := (hb1 k hk.symm).2; omega
    · exact (hb2 k hk.symm).2
  · rcases hk with hk | hk
    · exact (hb1 k hk.symm).1
    · have := (hb2 k hk.symm).1; omega
theorem Both.newA {L' : List Pc} (h : Both n0 w S p L q M) (hk : Kept2 p p w w') (h1 : SetIs w' S' p L') (h5 : RowLo w' w.heap.size p L') (h3 : ∀ k, S' k → (S k ∨ w.heap.size ≤ k) ∧ k < w'.heap.size) (h4 : ∀ k, S k → S' k) (h6 : ∀ k, Blk L' k → Blk L k ∨ w.heap.size ≤ k) : Both n0 w' S' p L' q M := by
  refine ⟨h1, ?_, rowNe_of_lo h5 h.B.lt, h.rB.kept h.rB h.B.lt hk h.ne.symm, h.ne, fun hb => by
      rcases h6 q hb with h' | h'
      · exact h.fA h'
      · have := h.B.lt; omega, h.fB, fun k hk => (h3 k hk).2, fun k hk => (h3 k hk).1.elim (h.lo k) fun h' => by have := h.lo _ h.A.pIn; have := h.A.lt; omega⟩
  have hB : RSetIs w S' q M := h.B.more (Below.refl _ _) (fun k hk => (h3 k hk).1) h4
  exact hB.kept hk (h4 _ h.A.pIn) (h4 _ h.A.pIn) ⟨h.fB, h.ne⟩ ⟨h.fB, h.ne⟩ fun A c hc => (h.rB A c hc).mono fun k hk => ⟨hk.1, hk.2, hk.2⟩
theorem Both.newB {M' : List Pc} (h : Both n0 w S p L q M) (hk : Kept2 q q w w') (h1 : RSetIs w' S' q M') (h5 : SRowLo w' w.heap.size q M') (h3 : ∀ k, S' k → (S k ∨ w.heap.size ≤ k) ∧ k < w'.heap.size) (h4 : ∀ k, S k → S' k) (h6 : ∀ k, Blk M' k → Blk M k ∨ w.heap.size ≤ k) : Both n0 w' S' p L q M' := by
  refine ⟨?_, h1, h.rA.kept h.A.lt hk h.ne, srowNe_of_lo h5 h.A.lt, h.ne, h.fA, fun hb => by
      rcases h6 p hb with h' | h'
      · exact h.fB h'
      · have := h.A.lt; omega, fun k hk => (h3 k hk).2, fun k hk => (h3 k hk).1.elim (h.lo k) fun h' => by have := h.lo _ h.A.pIn; have := h.A.lt; omega⟩
  have hA : SetIs w S' p L := h.A.more (Below.refl _ _) (fun k hk => (h3 k hk).1) h4
  exact hA.kept hk (h4 _ h.B.pIn) (h4 _ h.B.pIn) ⟨h.fA, h.ne.symm⟩ ⟨h.fA, h.ne.symm⟩ fun A c hc => (h.rA A c hc).mono fun k hk => ⟨hk.1, hk.2, hk.2⟩
def afterV (es : List EvV) (V : List (DefV × Ents)) : List (DefV × Ents) := if okAll es V = true then runAll es V else V
def afterE (es : List EvV) (V : List (DefV × Ents)) : Int := if okAll es V = true then 0 else 4
theorem Both.didA {es : List EvV} {x : Ending} (h : Both n0 w S p L q M) (hD : DidIs w S p L es x w') : x = .returned (.int .i64 (afterE es (viewP L))) ∧ ∃ S' L', Both n0 w' S' p L' q M ∧ viewP L' = afterV es (viewP L) ∧ (∀ k, S k → S' k) ∧ (∀ k, S' k → S k ∨ w.heap.size ≤ k) := by
  unfold afterE afterV
  rcases hD.ans with ⟨hok, rfl, L', S', h1, h2, h3, h4, h5, h6⟩ | ⟨hok, rfl, hE⟩
  · rw [if_pos hok, if_pos hok]
    exact ⟨rfl, S', L', h.newA hD.kept h1 h5 h3 h4 (fun k hk => .inr (h6 k hk)), h2, h4, fun k hk => (h3 k hk).1⟩
  · rw [if_neg (by rw [hok]; decide), if_neg (by rw [hok]; decide)]
    exact ⟨rfl, S, L, h.ext hE, rfl, fun k hk => hk, fun k hk => .inl hk⟩
theorem Both.didB {es : List EvV} {x : Ending} (h : Both n0 w S p L q M) (hD : SDidIs w S q M es x w') : x = .returned (.int .i64 (afterE es (viewP M))) ∧ ∃ S' M', Both n0 w' S' p L q M' ∧ viewP M' = afterV es (viewP M) ∧ (∀ k, S k → S' k) ∧ (∀ k, S' k → S k ∨ w.heap.size ≤ k) := by
  unfold afterE afterV
  rcases hD.ans with ⟨hok, rfl, L', S', h1, h2, h3, h4, h5, h6⟩ | ⟨hok, rfl, hE⟩
  · rw [if_pos hok, if_pos hok]
    exact ⟨rfl, S', L', h.newB hD.kept h1 h5 h3 h4 (fun k hk => .inr (h6 k hk)), h2, h4, fun k hk => (h3 k hk).1⟩
  · rw [if_neg (by rw [hok]; decide), if_neg (by rw [hok]; decide)]
    exact ⟨rfl, S, M, h.ext hE, rfl, fun k hk => hk, fun k hk => .inl hk⟩
structure Trio (n0 : Nat) (w : World) (S : Nat → Prop) (o : Nat) (L0 : List Pc) (p : Nat) (L : List Pc) (q : Nat) (M : List Pc) : Prop where
  two : Both n0 w S p L q M
  O : SetIs w S o L0
  rA : RowNe w p L o
  rB : SRowNe w q M o
  ne : o ≠ p ∧ o ≠ q
  f : ¬ Blk L o ∧ ¬ Blk M o
theorem Both.clone {e : Ending} (h : Both n0 w S p L q M) (hC : ClonedIs w S L e w') : ∃ p2 L2 S2, e = .returned (.pointer (some ⟨p2, 0, none⟩)) ∧ Trio n0 w' S2 p L p2 L2 q M ∧ viewP L2 = viewP L := by
  obtain ⟨hE, p2, v, L2, rfl, hI⟩ := hC
  have hd := hI.done
  have hp2 := hI.lo.2
  have hq := h.B.lt
  have hp := h.A.lt
  obtain ⟨A2, c2, q1, q2⟩ := hI.rowLo
  have hlo : RowLo w' w.heap.size p2 L2 := ⟨A2, c2, q1, q2⟩
  have hS : ∀ k, S k → NewS S p2 v L2 k := fun k hk => .inr (.inr (.inr hk))
  have hN : ∀ k, NewS S p2 v L2 k → S k ∨ w.heap.size ≤ k := fun k hk => by
    rcases hk with hk | hk | hk | hk
    · exact .inr ((hI.lt k (.inl hk)).1)
    · exact .inr ((hI.lt k (.inr (.inl hk))).1)
    · exact .inr ((hI.lt k (.inr (.inr (.inl hk)))).1)
    · exact .inl hk
  have hL : ∀ k, NewS S p2 v L2 k → k < w'.heap.size := fun k hk => by
    rcases hk with hk | hk | hk | hk
    · exact (hI.lt k (.inl hk)).2
    · exact (hI.lt k (.inr (.inl hk))).2
    · exact (hI.lt k (.inr (.inr (.inl hk)))).2
    · exact Nat.lt_of_lt_of_le (h.lt k hk) hE.size
  have hb : ∀ k, Blk L2 k → w.heap.size ≤ k := fun k hk => (hI.lt k (.inr (.inr (.inl hk)))).1
  have hBM : ∀ k, Blk M k → k < w.heap.size := fun k hk => (h.B.pcs.lt hk).1
  refine ⟨p2, L2, _, rfl, ⟨⟨hd, h.B.more hE hN hS, rowNe_of_lo hlo hq, (srowNe_of_young h.B hp2).ext hq hE, by omega, fun hk => by have := hb q hk; omega, fun hk => by have := hBM p2 hk; omega, hL, fun k hk => (hN k hk).elim (h.lo k) fun h' => by have := h.lo _ h.A.pIn; omega⟩,
    h.A.more hE hN hS, rowNe_of_lo hlo hp, h.rB.ext hq hE, ⟨by omega, h.ne⟩, ⟨fun hk => by have := hb p hk; omega, h.fB⟩⟩, hI.view⟩
theorem Trio.ext {o : Nat} {L0 : List Pc} (h : Trio n0 w S o L0 p L q M) (hE : Ext w w') : Trio n0 w' S o L0 p L q M :=
  ⟨h.two.ext hE, h.O.ext hE, h.rA.ext h.two.A.lt hE, h.rB.ext h.two.B.lt hE, h.ne, h.f⟩
theorem Trio.did {o : Nat} {L0 : List Pc} {es : List EvV} {x : Ending} (h : Trio n0 w S o L0 p L q M) (hD : DidIs w S o L0 es x w') : Both n0 w' S p L q M ∧ (∃ g : Int, x = .returned (.int .i64 g)) := by
  have hk := hD.kept
  have ho := h.O.pIn
  refine ⟨⟨h.two.A.kept hk ho ho ⟨h.f.1, h.ne.1⟩ ⟨h.f.1, h.ne.1⟩ fun A c hc => (h.rA A c hc).mono fun k hk => ⟨hk.1, hk.2, hk.2⟩, h.two.B.kept hk ho ho ⟨h.f.2, h.ne.2⟩ ⟨h.f.2, h.ne.2⟩ fun A c hc => (h.rB A c hc).mono fun k hk => ⟨hk.1, hk.2, hk.2⟩,
    h.two.rA.kept' h.rA h.two.A.lt hk h.ne.1.symm, h.two.rB.kept h.rB h.two.B.lt hk h.ne.2.symm, h.two.ne, h.two.fA, h.two.fB, fun k hk' => Nat.lt_of_lt_of_le (h.two.lt k hk') hk.size, h.two.lo⟩, ?_⟩
  rcases hD.ans with ⟨-, rfl, -⟩ | ⟨-, rfl, -⟩
  · exact ⟨_, rfl⟩
  · exact ⟨_, rfl⟩
end
def OkV (V : List (DefV × Ents)) : Prop := ∀ x ∈ V, OkR x.1 x.2 ∧ 1 ≤ x.1.kind ∧ x.1.kind ≤ 4
theorem okV_new {ds : List DefV} (h : ∀ d ∈ ds, mayDef d = 0) : OkV (ds.map fun d => (d, [])) := fun x hx => by
  obtain ⟨d, hd, rfl⟩ := List.mem_map.1 hx
  exact ⟨⟨List.Pairwise.nil, fun _ p hp => by simp at hp, fun _ => rfl⟩, may_kind (h d hd)⟩
theorem OkV.after {V : List (DefV × Ents)} (h : OkV V) (es : List EvV) : OkV (afterV es V) := by
  unfold afterV
  split
  · intro x hx
    unfold runAll at hx
    obtain ⟨y, hy, rfl⟩ := List.mem_map.1 hx
    exact ⟨okR_fold es (h y hy).1, (h y hy).2⟩
  · exact h
theorem FarV.after {B : Int} {N n m : Nat} {V : List (DefV × Ents)} {es : List EvV} (h : FarV B N n V) (hs : ∀ e ∈ es, mayEv e = 0) (he : es.length ≤ m) (hm : m ≤ n) : FarV (B + 1000 * (m : Int)) (N + 6 * m) (n - m) (afterV es V) := by
  unfold afterV
  split
  · exact h.next hs he hm
  · have h4 := h.hi; have h5 := h.lim; have h6 := h.lo
    exact ⟨h.few, fun x hx => (h.key x hx).le (by omega), fun x hx => (h.fit x hx).le (by omega), by omega, by omega, by omega⟩
end Go.Proofs.YtakebdeldndaaaaGreatDoor

