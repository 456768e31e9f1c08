/- Several texts of this claim's, one behind the other. -/
import Derived.Test.YtakebdeldndaaaaGreatDoorFoy
/- Rows of states. -/
namespace Go.Proofs.YtakebdeldndaaaaGreatDoor
open Go Go.RowKit
set_option linter.unusedSimpArgs false
set_option linter.unusedVariables false
structure Pc where
 s : Nat
 m : Nat
 d : DefV
 D : Ents
def Blk (L : List Pc) (k : Nat) : Prop := ∃ x ∈ L, k = x.s ∨ k = x.m
theorem Blk.nil {k : Nat} : ¬ Blk [] k := fun ⟨_, h, _⟩ => by simp at h
theorem Blk.snoc {L : List Pc} {x : Pc} {k : Nat} : Blk (L ++ [x]) k ↔ Blk L k ∨ k = x.s ∨ k = x.m := by
 constructor
 ·rintro ⟨y, hy, h⟩
  rcases List.mem_append.1 hy with hy | hy
  ·exact .inl ⟨y, hy, h⟩
  ·simp at hy; subst hy; exact .inr h
 ·rintro (⟨y, hy, h⟩ | h)
  ·exact ⟨y, by simp [hy], h⟩
  ·exact ⟨x, by simp, h⟩
structure PcsIs (w : World) (S : Nat → Prop) (L : List Pc) : Prop where
 each : ∀ x ∈ L, StIs w S x.s x.m (kdVal x.d) x.d.q x.D
 apart : L.Pairwise fun x y => Apart x.s x.m y.s y.m
section
variable {w w' : World} {S S' : Nat → Prop} {L : List Pc}
theorem PcsIs.nil : PcsIs w S [] := ⟨fun x hx => by simp at hx, List.Pairwise.nil⟩
theorem PcsIs.ext (h : PcsIs w S L) (hE : Ext w w') : PcsIs w' S L := ⟨fun x hx => (h.each x hx).ext hE, h.apart⟩
theorem PcsIs.more (h : PcsIs w S L) (hE : Ext w w') (hS : ∀ k, S' k → S k ∨ w.heap.size ≤ k) (hS2 : ∀ k, S k → S' k) : PcsIs w' S' L :=
 ⟨fun x hx => (h.each x hx).more hE hS (hS2 _ (h.each x hx).sIn) (hS2 _ (h.each x hx).mIn), h.apart⟩
theorem PcsIs.lt (h : PcsIs w S L) {k : Nat} (hk : Blk L k) : k < w.heap.size ∧ S k := by
 obtain ⟨x, hx, h2⟩ := hk
 have h1 := h.each x hx
 rcases h2 with rfl | rfl
 ·exact ⟨h1.lt.1, h1.sIn⟩
 ·exact ⟨h1.lt.2, h1.mIn⟩
theorem StIs.less {s m : Nat} {kv : Value} {q : List ClV} {D : Ents} (h : StIs w S s m kv q D) (hS : ∀ k, S' k → S k) (hs : S' s) (hm : S' m) : StIs w S' s m kv q D := by
 obtain ⟨A, c, h1, h2⟩ := h.row
 exact ⟨⟨A, c, h1, h2.mono fun k hk => ⟨hk.1, fun h' => hk.2 (hS k h')⟩⟩, h.map, hs, hm, h.ne⟩
theorem PcsIs.less (h : PcsIs w S L) (hS : ∀ k, S' k → S k) (hb : ∀ k, Blk L k → S' k) : PcsIs w S' L :=
 ⟨fun x hx => (h.each x hx).less hS (hb _ ⟨x, hx, .inl rfl⟩) (hb _ ⟨x, hx, .inr rfl⟩), h.apart⟩
theorem PcsIs.kept {a b : Nat} (h : PcsIs w S L) (hk : Kept2 a b w w') (ha : S a) (hb : S b) (h1 : ¬ Blk L a) (h2 : ¬ Blk L b) : PcsIs w' S L :=
 ⟨fun x hx => (h.each x hx).kept hk ha hb (fun e => h1 ⟨x, hx, .inl e.symm⟩) (fun e => h2 ⟨x, hx, .inl e.symm⟩) (fun e => h1 ⟨x, hx, .inr e.symm⟩) (fun e => h2 ⟨x, hx, .inr e.symm⟩), h.apart⟩
theorem PcsIs.snoc {x : Pc} (h : PcsIs w S L) (hx : StIs w S x.s x.m (kdVal x.d) x.d.q x.D) (hs : ¬ Blk L x.s) (hm : ¬ Blk L x.m) : PcsIs w S (L ++ [x]) := by
 refine ⟨fun y hy => ?_, List.pairwise_append.2 ⟨h.apart, List.pairwise_singleton _ _, fun y hy z hz => ?_⟩⟩
 ·rcases List.mem_append.1 hy with hy | hy
  ·exact h.each y hy
  ·simp at hy; subst hy; exact hx
 ·simp at hz; subst hz
  exact ⟨fun e => hs ⟨y, hy, .inl e.symm⟩, fun e => hm ⟨y, hy, .inl e.symm⟩, fun e => hs ⟨y, hy, .inr e.symm⟩, fun e => hm ⟨y, hy, .inr e.symm⟩⟩
def putD (L : List Pc) (i : Nat) (D : Ents) : List Pc := match L[i]? with
 | some x => L.set i ⟨x.s, x.m, x.d, D⟩
 | none => L
theorem putD_at {i : Nat} (hi : i < L.length) (D : Ents) : putD L i D = L.set i ⟨L[i].s, L[i].m, L[i].d, D⟩ := by unfold putD; rw [List.getElem?_eq_getElem hi]
theorem length_putD (L : List Pc) (i : Nat) (D : Ents) : (putD L i D).length = L.length := by
 unfold putD; split
 ·rw [List.length_set]
 ·rfl
theorem putD_s (L : List Pc) (i : Nat) (D : Ents) : (putD L i D).map (·.s) = L.map (·.s) := by
 unfold putD; split
 ·rename_i x hx
  rw [List.map_set]
  obtain ⟨hi, rfl⟩ := List.getElem?_eq_some_iff.1 hx
  refine List.ext_getElem (by simp) fun j h1 h2 => ?_
  rw [List.getElem_set]
  split
  ·rename_i e; subst e; rw [List.getElem_map]
  ·rfl
 ·rfl
theorem putD_blk {i : Nat} {D : Ents} {k : Nat} : Blk (putD L i D) k ↔ Blk L k := by
 unfold putD; split
 ·rename_i x hx
  obtain ⟨hi, rfl⟩ := List.getElem?_eq_some_iff.1 hx
  constructor
  ·rintro ⟨y, hy, h⟩
   rcases List.mem_or_eq_of_mem_set hy with hy | rfl
   ·exact ⟨y, hy, h⟩
   ·exact ⟨L[i], List.getElem_mem hi, h⟩
  ·rintro ⟨y, hy, h⟩
   obtain ⟨j, hj, rfl⟩ := List.getElem_of_mem hy
   by_cases e : i = j
   ·subst e
    exact ⟨⟨L[i].s, L[i].m, L[i].d, D⟩, List.mem_iff_getElem.2 ⟨i, by simpa using hj, by rw [List.getElem_set_self]⟩, h⟩
   ·exact ⟨L[j], List.mem_iff_getElem.2 ⟨j, by simpa using hj, by rw [List.getElem_set_ne e]⟩, h⟩
 ·exact Iff.rfl
theorem apart_get (h : L.Pairwise fun x y => Apart x.s x.m y.s y.m) {i j : Nat} (hi : i < L.length) (hj : j < L.length) (hne : i ≠ j) : Apart L[i].s L[i].m L[j].s L[j].m := by
 rcases Nat.lt_or_gt_of_ne hne with h1 | h1
 ·exact List.pairwise_iff_getElem.1 h i j hi hj h1
 ·exact (List.pairwise_iff_getElem.1 h j i hj hi h1).symm
end
end Go.Proofs.YtakebdeldndaaaaGreatDoor
/- A set of states in memory. -/
namespace Go.Proofs.YtakebdeldndaaaaGreatDoor
open Go Go.RowKit
set_option linter.unusedSimpArgs false
set_option linter.unusedVariables false
def Rep.ptr : Rep Nat where
 size := 1
 rel := fun _ _ s cs => cs = [.pointer (some ⟨s, 0, none⟩)]
 len := fun h => by subst h; rfl
 one := fun h u hu => by subst h; simp at hu; subst hu; rfl
 ext := fun h _ => h
 mono := fun h _ => h
def Free (L : List Pc) (p : Nat) (w : World) (k : Nat) : Prop := k < w.heap.size ∧ k ≠ p ∧ ¬ Blk L k
structure SetIs (w : World) (S : Nat → Prop) (p : Nat) (L : List Pc) : Prop where
 row : ∃ A c, w.heap[p]? = some (.cells #[.slice A L.length c] 126) ∧ SlR Rep.ptr w (Free L p w) A L.length c (L.map (·.s))
 pcs : PcsIs w S L
 pIn : S p
 pFree : ¬ Blk L p
theorem ptr_at {w : World} {K : Nat → Prop} {A : Option Addr} {n c : Nat} {xs : List Nat} (h : SlR Rep.ptr w K A n c xs) (i : Nat) (hi : i < xs.length) :
  ∃ b o, A = some ⟨b, o, none⟩ ∧ K b ∧ w.cell? ⟨b, o + i, none⟩ = some (.pointer (some ⟨xs[i]'hi, 0, none⟩)) := by
 obtain ⟨b, o, d, e, hk, hd, hg⟩ := h.get (by decide) i hi
 refine ⟨b, o, e, hk, ?_⟩
 have e' : d = [.pointer (some ⟨xs[i]'hi, 0, none⟩)] := hd
 subst e'
 have := hg 0 _ rfl
 simpa [show Rep.ptr.size = 1 from rfl] using this
section
variable {w w' : World} {S S' : Nat → Prop} {p : Nat} {L : List Pc}
theorem SetIs.lt (h : SetIs w S p L) : p < w.heap.size := by
 obtain ⟨A, c, h1, -⟩ := h.row
 exact (Array.getElem?_eq_some_iff.1 h1).1
theorem SetIs.more (h : SetIs w S p L) (hE : Ext w w') (hS : ∀ k, S' k → S k ∨ w.heap.size ≤ k) (hS2 : ∀ k, S k → S' k) : SetIs w' S' p L := by
 obtain ⟨A, c, h1, h2⟩ := h.row
 exact ⟨⟨A, c, (hE.block p h.lt).trans h1, (h2.ext fun k hk => hE.block k hk.1).mono fun k hk => ⟨Nat.lt_of_lt_of_le hk.1 hE.size, hk.2⟩⟩, h.pcs.more hE hS hS2, hS2 _ h.pIn, h.pFree⟩
theorem SetIs.ext (h : SetIs w S p L) (hE : Ext w w') : SetIs w' S p L := h.more hE (fun _ hk => .inl hk) fun _ hk => hk
theorem SetIs.less (h : SetIs w S p L) (hS : ∀ k, S' k → S k) (hb : ∀ k, Blk L k → S' k) (hp : S' p) : SetIs w S' p L := ⟨h.row, h.pcs.less hS hb, hp, h.pFree⟩
structure RowLo (w : World) (n p : Nat) (L : List Pc) : Prop where
 row : ∃ A c, w.heap[p]? = some (.cells #[.slice A L.length c] 126) ∧ SlR Rep.ptr w (fun k => Free L p w k ∧ n ≤ k) A L.length c (L.map (·.s))
theorem RowLo.down {n n' : Nat} (h : RowLo w n p L) (hn : n' ≤ n) : RowLo w n' p L := by
 obtain ⟨A, c, h1, h2⟩ := h.row
 exact ⟨A, c, h1, h2.mono fun k hk => ⟨hk.1, Nat.le_trans hn hk.2⟩⟩
end
end Go.Proofs.YtakebdeldndaaaaGreatDoor
/- Records run through states, up to the first error. Plain. -/
namespace Go.Proofs.YtakebdeldndaaaaGreatDoor
open Go
set_option linter.unusedVariables false
def viewP (L : List Pc) : List (DefV × Ents) := L.map fun x => (x.d, x.D)
end Go.Proofs.YtakebdeldndaaaaGreatDoor
