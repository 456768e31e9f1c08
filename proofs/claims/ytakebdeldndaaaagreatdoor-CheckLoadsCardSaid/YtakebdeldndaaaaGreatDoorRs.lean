/- Several texts of this claim's, one behind the other. -/
import Derived.Test.YtakebdeldndaaaaGreatDoorPj
import Derived.Test.YtakebdeldndaaaaGreatDoorRq
import Derived.Test.YtakebdeldndaaaaGreatDoorPjNew
import Derived.Test.YtakebdeldndaaaaGreatDoorRn
import Derived.Test.YtakebdeldndaaaaGreatDoorFound
import Derived.Test.YtakebdeldndaaaaGreatDoorNorms
import Derived.Test.YtakebdeldndaaaaGreatDoorPjClone
import Derived.Test.YtakebdeldndaaaaGreatDoorPja
import Derived.Test.YtakebdeldndaaaaGreatDoorPlMath
import Derived.Test.YtakebdeldndaaaaGreatDoorRd
import Derived.Test.YtakebdeldndaaaaGreatDoorLd
/- Rows of the reference's states. (Printed by tools/gen_rset.py out of XPc.) -/
namespace Go.Proofs.YtakebdeldndaaaaGreatDoor
open Go Go.RowKit
set_option linter.unusedSimpArgs false
set_option linter.unusedVariables false
structure RefS (w : World) (S : Nat → Prop) (s m : Nat) (d : DefV) (D : Ents) : Prop where
  st : RefSt w S s d D
  eq : m = s
section
variable {w w' : World} {S S' : Nat → Prop} {s m a b : Nat} {d : DefV} {D : Ents}
theorem RefS.sIn (h : RefS w S s m d D) : S s := h.st.yIn
theorem RefS.mIn (h : RefS w S s m d D) : S m := by rw [h.eq]; exact h.st.yIn
theorem RefS.lt (h : RefS w S s m d D) : s < w.heap.size ∧ m < w.heap.size := ⟨h.st.lt, by rw [h.eq]; exact h.st.lt⟩
theorem RefS.ext (h : RefS w S s m d D) (hE : Ext w w') : RefS w' S s m d D := ⟨h.st.ext hE, h.eq⟩
theorem RefS.more (h : RefS w S s m d D) (hE : Ext w w') (hS : ∀ k, S' k → S k ∨ w.heap.size ≤ k) (hs : S' s) (hm : S' m) : RefS w' S' s m d D := ⟨h.st.more hE hS hs, h.eq⟩
theorem RefS.less (h : RefS w S s m d D) (hS : ∀ k, S' k → S k) (hs : S' s) (hm : S' m) : RefS w S' s m d D := by
  obtain ⟨A, c, B, n, b, h1, h2, h3⟩ := h.st.box
  exact ⟨⟨⟨A, c, B, n, b, h1, h2.mono fun k hk => ⟨hk.1, fun h' => hk.2 (hS k h')⟩, h3.mono fun k hk => ⟨hk.1, fun h' => hk.2 (hS k h')⟩⟩, hs⟩, h.eq⟩
theorem RefS.kept (h : RefS w S s m d D) (hk : Kept2 a b w w') (ha : S a) (hb : S b) (h1 : s ≠ a) (h2 : s ≠ b) (h3 : m ≠ a) (h4 : m ≠ b) : RefS w' S s m d D := ⟨h.st.kept hk ha hb h1 h2, h.eq⟩
end
structure ScsIs (w : World) (S : Nat → Prop) (L : List Pc) : Prop where
  each : ∀ x ∈ L, RefS w S x.s x.m x.d x.D
  apart : L.Pairwise fun x y => Apart x.s x.m y.s y.m
section
variable {w w' : World} {S S' : Nat → Prop} {L : List Pc}
theorem ScsIs.nil : ScsIs w S [] := ⟨fun x hx => by simp at hx, List.Pairwise.nil⟩
theorem ScsIs.ext (h : ScsIs w S L) (hE : Ext w w') : ScsIs w' S L := ⟨fun x hx => (h.each x hx).ext hE, h.apart⟩
theorem ScsIs.more (h : ScsIs w S L) (hE : Ext w w') (hS : ∀ k, S' k → S k ∨ w.heap.size ≤ k) (hS2 : ∀ k, S k → S' k) : ScsIs w' S' L :=
  ⟨fun x hx => (h.each x hx).more hE hS (hS2 _ (h.each x hx).sIn) (hS2 _ (h.each x hx).mIn), h.apart⟩
theorem ScsIs.lt (h : ScsIs w S L) {k : Nat} (hk : Blk L k) : k < w.heap.size ∧ S k := by
  obtain ⟨x, hx, h2⟩ := hk
  have h1 := h.each x hx
  rcases h2 with rfl | rfl
  · exact ⟨h1.lt.1, h1.sIn⟩
  · exact ⟨h1.lt.2, h1.mIn⟩
theorem ScsIs.less (h : ScsIs w S L) (hS : ∀ k, S' k → S k) (hb : ∀ k, Blk L k → S' k) : ScsIs w S' L :=
  ⟨fun x hx => (h.each x hx).less hS (hb _ ⟨x, hx, .inl rfl⟩) (hb _ ⟨x, hx, .inr rfl⟩), h.apart⟩
theorem ScsIs.kept {a b : Nat} (h : ScsIs w S L) (hk : Kept2 a b w w') (ha : S a) (hb : S b) (h1 : ¬ Blk L a) (h2 : ¬ Blk L b) : ScsIs w' S L :=
  ⟨fun x hx => (h.each x hx).kept hk ha hb (fun e => h1 ⟨x, hx, .inl e.symm⟩) (fun e => h2 ⟨x, hx, .inl e.symm⟩) (fun e => h1 ⟨x, hx, .inr e.symm⟩) (fun e => h2 ⟨x, hx, .inr e.symm⟩), h.apart⟩
theorem ScsIs.snoc {x : Pc} (h : ScsIs w S L) (hx : RefS w S x.s x.m x.d x.D) (hs : ¬ Blk L x.s) (hm : ¬ Blk L x.m) : ScsIs w S (L ++ [x]) := by
  refine ⟨fun y hy => ?_, List.pairwise_append.2 ⟨h.apart, List.pairwise_singleton _ _, fun y hy z hz => ?_⟩⟩
  · rcases List.mem_append.1 hy with hy | hy
    · exact h.each y hy
    · simp at hy; subst hy; exact hx
  · simp at hz; subst hz
    exact ⟨fun e => hs ⟨y, hy, .inl e.symm⟩, fun e => hm ⟨y, hy, .inl e.symm⟩, fun e => hs ⟨y, hy, .inr e.symm⟩, fun e => hm ⟨y, hy, .inr e.symm⟩⟩
end
end Go.Proofs.YtakebdeldndaaaaGreatDoor
/- The reference's set in memory. (Printed by tools/gen_rset.py out of XSet.) -/
namespace Go.Proofs.YtakebdeldndaaaaGreatDoor
open Go Go.RowKit
set_option linter.unusedSimpArgs false
set_option linter.unusedVariables false
structure RSetIs (w : World) (S : Nat → Prop) (p : Nat) (L : List Pc) : Prop where
  row : ∃ A c, w.heap[p]? = some (.cells #[.slice A L.length c] 153) ∧ SlR Rep.ptr w (Free L p w) A L.length c (L.map (·.s))
  pcs : ScsIs w S L
  pIn : S p
  pFree : ¬ Blk L p
section
variable {w w' : World} {S S' : Nat → Prop} {p : Nat} {L : List Pc}
theorem RSetIs.lt (h : RSetIs w S p L) : p < w.heap.size := by
  obtain ⟨A, c, h1, -⟩ := h.row
  exact (Array.getElem?_eq_some_iff.1 h1).1
theorem RSetIs.more (h : RSetIs w S p L) (hE : Ext w w') (hS : ∀ k, S' k → S k ∨ w.heap.size ≤ k) (hS2 : ∀ k, S k → S' k) : RSetIs w' S' p L := by
  obtain ⟨A, c, h1, h2⟩ := h.row
  exact ⟨⟨A, c, (hE.block p h.lt).trans h1, (h2.ext fun k hk => hE.block k hk.1).mono fun k hk => ⟨Nat.lt_of_lt_of_le hk.1 hE.size, hk.2⟩⟩, h.pcs.more hE hS hS2, hS2 _ h.pIn, h.pFree⟩
theorem RSetIs.ext (h : RSetIs w S p L) (hE : Ext w w') : RSetIs w' S p L := h.more hE (fun _ hk => .inl hk) fun _ hk => hk
theorem RSetIs.less (h : RSetIs w S p L) (hS : ∀ k, S' k → S k) (hb : ∀ k, Blk L k → S' k) (hp : S' p) : RSetIs w S' p L := ⟨h.row, h.pcs.less hS hb, hp, h.pFree⟩
structure SRowLo (w : World) (n p : Nat) (L : List Pc) : Prop where
  row : ∃ A c, w.heap[p]? = some (.cells #[.slice A L.length c] 153) ∧ SlR Rep.ptr w (fun k => Free L p w k ∧ n ≤ k) A L.length c (L.map (·.s))
end
end Go.Proofs.YtakebdeldndaaaaGreatDoor
/- The reference's set while it is made. (Printed by tools/gen_rset.py out of XPjNew.) -/
namespace Go.Proofs.YtakebdeldndaaaaGreatDoor
open Go Go.RowKit
set_option linter.unusedSimpArgs false
set_option linter.unusedVariables false
theorem sptrinfo : SlInfo Tryz.prog 151 154 (.pointer none) Rep.ptr.size 8 := ⟨Tryz.underlying151, by kernel_rfl, rfl, by decide⟩
structure SNewIs (X : Nat → Prop) (n0 p : Nat) (V : List (DefV × Ents)) (v : Value) (L : List Pc) (wr : World) : Prop where
  cell : wr.heap[p]? = some (.cells #[v] 153)
  own : OwnK Rep.ptr 154 (fun _ => False) wr n0 v (L.map (·.s))
  pcs : ScsIs wr (NewS X p v L) L
  view : viewP L = V
  lo : (∀ k, Blk L k → n0 ≤ k) ∧ n0 ≤ p
  xlo : ∀ k, X k → k < n0
  free : ¬ Blk L p ∧ (∀ k, v.ownBlock = some k → ¬ Blk L k ∧ k ≠ p)
section
variable {X : Nat → Prop} {n0 p : Nat} {V : List (DefV × Ents)} {v v' : Value} {L : List Pc} {w w' : World}
theorem SNewIs.ownLt (h : SNewIs X n0 p V v L w) (k : Nat) (hk : v.ownBlock = some k) : n0 ≤ k ∧ k < w.heap.size := by
  obtain ⟨cs, ho, -⟩ := h.own
  exact World.ownsRow.lt ho k hk
theorem SNewIs.pLt (h : SNewIs X n0 p V v L w) : p < w.heap.size := (Array.getElem?_eq_some_iff.1 h.cell).1
theorem SNewIs.lt (h : SNewIs X n0 p V v L w) (k : Nat) (hk : NewS (fun _ => False) p v L k) : n0 ≤ k ∧ k < w.heap.size := by
  rcases hk with rfl | hk | hk | hk
  · exact ⟨h.lo.2, h.pLt⟩
  · exact h.ownLt k hk
  · exact ⟨h.lo.1 k hk, (h.pcs.lt hk).1⟩
  · exact hk.elim
theorem SNewIs.ext (h : SNewIs X n0 p V v L w) (hE : Ext w w') : SNewIs X n0 p V v L w' :=
  ⟨(hE.block p h.pLt).trans h.cell, h.own.ext hE fun _ hk => hk.elim, h.pcs.ext hE, h.view, h.lo, h.xlo, h.free⟩
structure SPreIs (X : Nat → Prop) (n0 p : Nat) (V : List (DefV × Ents)) (v : Value) (L : List Pc) (wr : World) : Prop where
  own : OwnK Rep.ptr 154 (fun _ => False) wr n0 v (L.map (·.s))
  pcs : ScsIs wr (NewS X p v L) L
  view : viewP L = V
  lo : (∀ k, Blk L k → n0 ≤ k) ∧ n0 ≤ p ∧ p < wr.heap.size
  xlo : ∀ k, X k → k < n0
  free : ¬ Blk L p ∧ (∀ k, v.ownBlock = some k → ¬ Blk L k ∧ k ≠ p)
theorem SPreIs.ext (h : SPreIs X n0 p V v L w) (hE : Ext w w') : SPreIs X n0 p V v L w' :=
  ⟨h.own.ext hE fun _ hk => hk.elim, h.pcs.ext hE, h.view, ⟨h.lo.1, h.lo.2.1, Nat.lt_of_lt_of_le h.lo.2.2 hE.size⟩, h.xlo, h.free⟩
theorem SPreIs.kept (h : SPreIs X n0 p V v L w) (hk : Kept2 p p w w') : SPreIs X n0 p V v L w' :=
  ⟨h.own.kept (row := some p) ⟨hk.os, hk.tape, hk.output, hk.size, fun k hk' hne => hk.block k hk' (fun e => hne (by rw [e])) (fun e => hne (by rw [e]))⟩ (.inr fun e => (h.free.2 p e).2 rfl) fun k hk => hk.elim,
   h.pcs.kept hk (.inl rfl) (.inl rfl) h.free.1 h.free.1, h.view, ⟨h.lo.1, h.lo.2.1, Nat.lt_of_lt_of_le h.lo.2.2 hk.size⟩, h.xlo, h.free⟩
theorem SPreIs.store (h : SPreIs X n0 p V v' L w) (hc : w.heap[p]? = some (.cells #[v] 153)) : SNewIs X n0 p V v' L (w.setCell ⟨p, 0, none⟩ v') := by
  have hkp : Kept2 p p w (w.setCell ⟨p, 0, none⟩ v') := ⟨rfl, rfl, rfl, by simp, fun k hk h1 _ => heap_setCell_other w ⟨p, 0, none⟩ k _ (fun e => h1 e)⟩
  have h2 := h.kept hkp
  exact ⟨heap_setCell_row hc _, h2.own, h2.pcs, h2.view, ⟨h2.lo.1, h2.lo.2.1⟩, h2.xlo, h2.free⟩
theorem SNewIs.pre {x : Pc} {w2 w3 : World} (h : SNewIs X n0 p V v L w) (hE : Ext w w2) (hx : w.heap.size ≤ x.s ∧ w.heap.size ≤ x.m) (hxl : x.s < w2.heap.size ∧ x.m < w2.heap.size)
    (hN : ∀ S' : Nat → Prop, (∀ k, S' k → X k ∨ (n0 ≤ k ∧ k < w.heap.size) ∨ k = x.s ∨ k = x.m) → S' x.s → S' x.m → RefS w2 S' x.s x.m x.d x.D)
    (ho : OwnK Rep.ptr 154 (fun _ => False) w3 n0 v' (L.map (·.s) ++ [x.s])) (hg : w2.grownBy w3 v.ownBlock) (hat : v'.ownBlock = v.ownBlock ∨ v'.ownBlock = some w2.heap.size) :
    SPreIs X n0 p (V ++ [(x.d, x.D)]) v' (L ++ [x]) w3 ∧ w3.heap[p]? = some (.cells #[v] 153) := by
  have hpl := h.pLt
  have hsz := hE.size
  have hg3 := hg.size
  have hlow : n0 ≤ w.heap.size := Nat.le_trans h.lo.2 (Nat.le_of_lt hpl)
  have hns : ¬ Blk L x.s := fun hb => by have := (h.pcs.lt hb).1; omega
  have hnm : ¬ Blk L x.m := fun hb => by have := (h.pcs.lt hb).1; omega
  have hfp : ¬ Blk (L ++ [x]) p := fun hb => by
    rcases Blk.snoc.1 hb with hb | hb | hb
    · exact h.free.1 hb
    · omega
    · omega
  -- with the new state, in w2
  have h1 : ScsIs w2 (NewS X p v (L ++ [x])) (L ++ [x]) := by
    refine (h.pcs.more hE (fun k hk => ?_) fun k hk => ?_).snoc (hN _ (fun k hk => ?_) (.inr (.inr (.inl (Blk.snoc.2 (.inr (.inl rfl)))))) (.inr (.inr (.inl (Blk.snoc.2 (.inr (.inr rfl))))))) hns hnm
    · rcases hk with hk | hk | hk | hk
      · exact .inl (.inl hk)
      · exact .inl (.inr (.inl hk))
      · rcases Blk.snoc.1 hk with hk | hk | hk
        · exact .inl (.inr (.inr (.inl hk)))
        · right; omega
        · right; omega
      · exact .inl (.inr (.inr (.inr hk)))
    · rcases hk with hk | hk | hk | hk
      · exact .inl hk
      · exact .inr (.inl hk)
      · exact .inr (.inr (.inl (Blk.snoc.2 (.inl hk))))
      · exact .inr (.inr (.inr hk))
    · rcases hk with rfl | hk | hk | hk
      · exact .inr (.inl ⟨h.lo.2, hpl⟩)
      · exact .inr (.inl (h.ownLt k hk))
      · rcases Blk.snoc.1 hk with hk | hk | hk
        · exact .inr (.inl ⟨h.lo.1 k hk, (h.pcs.lt hk).1⟩)
        · exact .inr (.inr (.inl hk))
        · exact .inr (.inr (.inr hk))
      · exact .inl hk
  have hfo : ∀ k, v.ownBlock = some k → ¬ Blk (L ++ [x]) k ∧ k ≠ p := fun k hk => by
    have h2 := h.free.2 k hk
    have h3 := h.ownLt k hk
    refine ⟨fun hb => ?_, h2.2⟩
    rcases Blk.snoc.1 hb with hb | hb | hb
    · exact h2.1 hb
    · omega
    · omega
  -- behind the append
  have h2 : ScsIs w3 (NewS X p v (L ++ [x])) (L ++ [x]) := by
    cases hb : v.ownBlock with
    | none =>
      rw [hb] at hg
      exact h1.ext ⟨hg.os, hg.tape, hg.output, hg.size, fun k hk => hg.block k hk (by simp)⟩
    | some g =>
      rw [hb] at hg
      have hk : Kept2 g g w2 w3 := Kept2.of_grown hg (.inl rfl)
      exact h1.kept hk (.inr (.inl hb)) (.inr (.inl hb)) (hfo g hb).1 (hfo g hb).1
  have hfo' : ∀ k, v'.ownBlock = some k → ¬ Blk (L ++ [x]) k ∧ k ≠ p := fun k hk => by
    rcases hat with e | e
    · rw [e] at hk; exact hfo k hk
    · rw [e] at hk
      obtain rfl := Option.some.inj hk
      exact ⟨fun hb => by have := (h1.lt hb).1; omega, by omega⟩
  have hown' : ∀ k, v'.ownBlock = some k → k < w3.heap.size := fun k hk => by
    obtain ⟨cs, ho', -⟩ := ho
    exact (World.ownsRow.lt ho' k hk).2
  -- the row's block may be another
  have h3 : ScsIs w3 (NewS X p v' (L ++ [x])) (L ++ [x]) := by
    have hb2 : ∀ k, NewS X p v' (L ++ [x]) k → NewS X p v (L ++ [x]) k ∨ w2.heap.size ≤ k := fun k hk => by
      rcases hk with hk | hk | hk | hk
      · exact .inl (.inl hk)
      · rcases hat with e | e
        · rw [e] at hk; exact .inl (.inr (.inl hk))
        · rw [e] at hk; obtain rfl := Option.some.inj hk; right; exact Nat.le_refl _
      · exact .inl (.inr (.inr (.inl hk)))
      · exact .inl (.inr (.inr (.inr hk)))
    -- from w2, where the other block is new
    have h1' : ScsIs w2 (fun k => NewS X p v (L ++ [x]) k ∨ NewS X p v' (L ++ [x]) k) (L ++ [x]) := h1.more (Below.refl _ _) (fun k hk => hk.elim .inl (hb2 k)) fun k hk => .inl hk
    have h2' : ScsIs w3 (fun k => NewS X p v (L ++ [x]) k ∨ NewS X p v' (L ++ [x]) k) (L ++ [x]) := by
      cases hb : v.ownBlock with
      | none =>
        rw [hb] at hg
        exact h1'.ext ⟨hg.os, hg.tape, hg.output, hg.size, fun k hk => hg.block k hk (by simp)⟩
      | some g =>
        rw [hb] at hg
        exact h1'.kept (Kept2.of_grown hg (.inl rfl) : Kept2 g g w2 w3) (.inl (.inr (.inl hb))) (.inl (.inr (.inl hb))) (hfo g hb).1 (hfo g hb).1
    exact h2'.less (fun k hk => .inr hk) fun k hk => .inr (.inr (.inl hk))
  have hcell3 : w3.heap[p]? = some (.cells #[v] 153) := by
    rw [hg.block p (by omega) fun e => (h.free.2 p e.symm).2 rfl, hE.block p hpl, h.cell]
  refine ⟨⟨by rw [List.map_append]; exact ho, h3, by unfold viewP; rw [List.map_append, ← h.view]; rfl, ⟨fun k hk => ?_, h.lo.2, by omega⟩, h.xlo, hfp, hfo'⟩, hcell3⟩
  rcases Blk.snoc.1 hk with hk | hk | hk
  · exact h.lo.1 k hk
  · omega
  · omega
end
theorem SNewIs.rowLo {X : Nat → Prop} {n0 p : Nat} {V : List (DefV × Ents)} {v : Value} {L : List Pc} {w : World} (h : SNewIs X n0 p V v L w) : ∃ A c, w.heap[p]? = some (.cells #[.slice A L.length c] 153) ∧ SlR Rep.ptr w (fun k => Free L p w k ∧ n0 ≤ k) A L.length c (L.map (·.s)) := by
  obtain ⟨A, c, cs, e, hc, hm, hr, hv⟩ := h.own.read
  have hl : (L.map (·.s)).length = L.length := List.length_map ..
  have hS : SlR Rep.ptr w (fun k => Free L p w k ∧ n0 ≤ k) A (L.map (·.s)).length c (L.map (·.s)) := by
    refine ⟨rfl, hc, hm, cs, hr.mono fun _ h => h.elim, ?_⟩
    rcases hv with h' | ⟨b, o, e', h'⟩
    · exact .inl h'
    · by_cases h0 : (L.map (·.s)).length = 0
      · left
        have := hr.len
        rw [h0, Nat.zero_mul] at this
        exact List.eq_nil_of_length_eq_zero this
      · have hb : v.ownBlock = some b := by rw [e, e']; rfl
        have := h.free.2 b hb
        exact .inr ⟨b, o, e', ⟨⟨(h.ownLt b hb).2, this.2, this.1⟩, (h.ownLt b hb).1⟩, h'⟩
  rw [hl] at hS e
  exact ⟨A, c, by rw [← e]; exact h.cell, hS⟩
theorem SNewIs.done {X : Nat → Prop} {n0 p : Nat} {V : List (DefV × Ents)} {v : Value} {L : List Pc} {w : World} (h : SNewIs X n0 p V v L w) : RSetIs w (NewS X p v L) p L := by
  obtain ⟨A, c, h1, h2⟩ := h.rowLo
  exact ⟨⟨A, c, h1, h2.mono fun k hk => hk.1⟩, h.pcs, .inl rfl, h.free.1⟩
end Go.Proofs.YtakebdeldndaaaaGreatDoor
/- registrarref16.New. -/
namespace Go.Proofs.YtakebdeldndaaaaGreatDoor
open Go Go.RowKit
set_option linter.unusedSimpArgs false
set_option linter.unusedVariables false
theorem SNewIs.snocR {X : Nat → Prop} {n1 n0 p : Nat} {V : List (DefV × Ents)} {v v' : Value} {L : List Pc} {w w2 w3 : World} {y : Nat} {d : DefV} {D : Ents} (h : SNewIs X n0 p V v L w) (hE : Ext w w2) (hx : w.heap.size ≤ y) (hX : ∀ k, X k → n1 ≤ k) (hn : n1 ≤ n0) (hN : ∀ S' : Nat → Prop, (∀ k, S' k → n1 ≤ k) → S' y → RefSt w2 S' y d D)
    (ho : OwnK Rep.ptr 154 (fun _ => False) w3 n0 v' (L.map (·.s) ++ [y])) (hg : w2.grownBy w3 v.ownBlock) (hat : v'.ownBlock = v.ownBlock ∨ v'.ownBlock = some w2.heap.size) :
    SNewIs X n0 p (V ++ [(d, D)]) v' (L ++ [⟨y, y, d, D⟩]) (w3.setCell ⟨p, 0, none⟩ v') := by
  have h0 := h.lo.2
  have h1 := h.pLt
  have hlt : y < w2.heap.size := (hN (fun k => k = y) (fun k hk => by omega) rfl).lt
  have h2 := h.pre (x := ⟨y, y, d, D⟩) hE ⟨hx, hx⟩ ⟨hlt, hlt⟩ (fun S' hS h1 h2 => ⟨hN S' (fun k hk => by
    rcases hS k hk with h3 | h3 | h3 | h3
    · exact hX k h3
    · omega
    · dsimp only at h3; omega
    · dsimp only at h3; omega) h1, rfl⟩) ho hg hat
  exact h2.1.store h2.2
structure SMade (w : World) (n1 : Nat) (xs : List DefV) (e : Ending) (w' : World) : Prop where
  ext : Ext w w'
  ans : (defsE xs ≠ 0 ∧ e = .returned (.tuple #[.pointer none, .int .i64 (defsE xs)])) ∨
    (defsE xs = 0 ∧ ∃ p L S, e = .returned (.tuple #[.pointer (some ⟨p, 0, none⟩), .int .i64 0]) ∧ RSetIs w' S p L ∧ viewP L = xs.map (fun d => (d, [])) ∧ SRowLo w' w.heap.size p L ∧ (∀ k, n1 ≤ k → k < w.heap.size → S k) ∧ (∀ k, S k → n1 ≤ k) ∧ (∀ k, Blk L k ∨ k = p → w.heap.size ≤ k ∧ k < w'.heap.size))
set_option maxRecDepth 100000 in
set_option maxHeartbeats 4000000 in
theorem refSetNew_at {w : World} {n1 : Nat} {A : Option Addr} {n c : Nat} {xs : List DefV} (hx : SlR RDef w (· < n1) A n c xs) (hn1 : n1 ≤ w.heap.size) :
    Calls Tryz.prog 53 #[.slice A n c] w fun e w' => SMade w n1 xs e w' := by
  have hn := hid hx.1
  have hnc := hx.2.1
  have hcm := hx.2.2.1
  have HX := hid hx
  have hpd := refPutDefs_at (hx.mono fun k hk => Nat.lt_of_lt_of_le hk hn1)
  clear hx
  go_enter Tryz.func53, Tryz.ntmps53
  go_wp2_with fail
  refine hpd.mono ?_
  clear hpd
  rintro e w1 ⟨v0, rfl, -, hE⟩
  have HE1 := hid hE
  clear hE
  by_cases h0 : defsE xs = 0
  rotate_left
  · have hpost := hid (fun W (hE : Ext w W) => (⟨hE, .inl ⟨h0, rfl⟩⟩ : SMade w n1 xs (.returned (.tuple #[.pointer none, .int .i64 (defsE xs)])) W))
    have hx : (defsE xs != 0) = true := by simpa using h0
    have hx2 : (defsE xs == 0) = false := by simpa using h0
    clear h0
    go_wp2
    go_ret2
    exact hpost.out _ HE1.out
  rw [h0]
  obtain ⟨h4, hall⟩ := defsE_zero h0
  have H0 := hid h0
  have Hall := hid hall
  have hn4 : n ≤ 4 := by have := hn.out; omega
  clear h0 h4 hall
  have hE2 := ext_alloc w1 (.cells #[.slice none 0 0] 153)
  have HE2 := hid (HE1.out.trans' hE2)
  have hs1 := HE1.out.size
  have HI := hid (show SNewIs (fun k => n1 ≤ k ∧ k < w.heap.size) w.heap.size w1.heap.size ((xs.take 0).map fun d => (d, [])) (.slice none 0 0) [] (w1.alloc (.cells #[.slice none 0 0] 153)) from
    ⟨heap_alloc_last _ _, OwnK.nil _ _, ScsIs.nil, rfl, ⟨fun k hk => (Blk.nil hk).elim, hs1⟩, fun k hk => hk.2, Blk.nil, fun k hk => by cases hk⟩)
  clear hE2 hs1
  go_wp2_with fail
  generalize w1.heap.size = p at *
  generalize w1.alloc (.cells #[.slice none 0 0] 153) = w2 at *
  go_loopw [7] (fun i wr => ∃ k : Nat, k ≤ n ∧ i = .int .i64 (k : Int) ∧ Hid (∃ v L, SNewIs (fun k => n1 ≤ k ∧ k < w.heap.size) w.heap.size p ((xs.take k).map fun d => (d, [])) v L wr) ∧ Hid (Ext w wr)) (fun i _ => n - (intOf i).toNat)
  case atStart => exact ⟨0, by omega, rfl, ⟨_, _, HI.out⟩, HE2⟩
  case round =>
    obtain ⟨k, hk, rfl, HI', HE⟩ := hrel
    clear HI
    obtain ⟨v, L, hI⟩ := HI'.out
    have HI := hid hI
    clear hI HI'
    by_cases hlt : k < n
    · have hkx : k < xs.length := by have := hn.out; omega
      have hlt' : (k : Int) < (n : Int) := by omega
      have hk00 : ¬ ((k : Int) < 0) := by omega
      have hk0 : (0 : Int) ≤ (k : Int) := by omega
      obtain ⟨b, o, B1, d1, rfl, -, f0, f1, f2, -, hq⟩ := def_at (HX.out.ext fun j hj => HE.out.block j (Nat.lt_of_lt_of_le hj hn1)) k hkx
      have hmay := Hall.out _ (List.getElem_mem hkx)
      have Hts := hid (show (xs.take (k + 1)).map (fun d => (d, ([] : Ents))) = (xs.take k).map (fun d => (d, [])) ++ [(xs[k], [])] by rw [List.take_succ_eq_append_getElem hkx, List.map_append]; rfl)
      have hcc := refNew_at (d := xs[k]) hq (Nat.le_trans hn1 HE.out.size)
      unfold defVal at hcc
      clear hq
      generalize xs[k] = t at *
      generalize t.q.length = ql at *
      go_wp2_with fail
      clear f0 f1 f2
      refine hcc.mono ?_
      clear hcc
      rintro e w3 ⟨hE3, hres⟩
      rcases hres with ⟨h, -⟩ | ⟨-, s, rfl, hs, hN⟩
      · exact absurd hmay h
      have HN := hid hN; have HE3 := hid hE3
      have HIc := hid (HI.out.ext hE3)
      have hcell : w3.cell? ⟨p, 0, none⟩ = some v := by rw [cell_of_row _ _ _ _ _ _ HIc.out.cell]; rfl
      have hfz : w3.frozen? ⟨p, 0, none⟩ = false := by have := HIc.out.cell; simp [World.frozen?, this]
      have HEw := hid (HE.out.trans' hE3)
      clear hN hE3 hmay
      have hE4 := ext_alloc w3 (.cells #[.pointer (some ⟨s, 0, none⟩)] 154)
      have Hbox := hid (show ∃ cs, Rows Rep.ptr (w3.alloc (.cells #[.pointer (some ⟨s, 0, none⟩)] 154)) (fun _ => False) [s] cs ∧ RV (w3.alloc (.cells #[.pointer (some ⟨s, 0, none⟩)] 154)) (some ⟨w3.heap.size, 0, none⟩) cs from ⟨_, Rows.single rfl, RV.box w3 _ _⟩)
      have HIx := hid (HIc.out.ext hE4)
      have HNx := hid (show ∀ S' : Nat → Prop, (∀ k, S' k → n1 ≤ k) → S' s → RefSt (w3.alloc (.cells #[.pointer (some ⟨s, 0, none⟩)] 154)) S' s t [] from fun S' h1 h2 => (HN.out S' h1 h2).ext hE4)
      have HEx := hid ((HE3.out).trans' hE4)
      have HEy := hid (HEw.out.trans' hE4)
      have HOx := hid HIx.out.own
      have hlx : (L.map (·.s)).length ≤ 4 := by
        have := congrArg List.length HIx.out.view
        unfold viewP at this
        rw [List.length_map, List.length_map, List.length_take] at this
        rw [List.length_map]; omega
      have hszx := HEw.out.size
      have hsm := hid hs
      clear hE4 hs HN HE3
      go_wp2_with (at_builtin; refine wpList_appK (w0 := w) (R := Rep.ptr) (xs := L.map (·.s)) (base := w.heap.size) sptrinfo rfl (.tmp 38) (.tmp 40) rfl rfl HOx (fun _ h => h.elim) HEy (by simp; omega) (some ⟨w3.heap.size, 0, none⟩) 1 1 [s] rfl rfl Hbox (by omega) (by omega) ?_; intro v2 W2 HA2 HB2 HG2; obtain ⟨A2, l2, c2, rfl⟩ : ∃ A l c, v2 = .slice A l c := (let ⟨A, c, _, e, _⟩ := HA2.out.read; ⟨A, _, c, e⟩); have HF2 := hid (HI.out.snocR (y := s) (d := t) (D := []) HEx.out hsm.out (fun _ h => h.1) hn1 HNx.out HA2.out HG2.out.grown HG2.out.at_); clear hcell hfz; have hcell : W2.cell? ⟨p, 0, none⟩ = some v := (by have hp := HIx.out.pLt; have hb := HG2.out.grown.block p hp (fun e => (HIx.out.free.2 p e.symm).2 rfl); rw [cell_of_row _ _ _ _ _ _ (hb.trans HIx.out.cell)]; rfl); have hfz : W2.frozen? ⟨p, 0, none⟩ = false := (by have hp := HIx.out.pLt; have hb := (HG2.out.grown.block p hp (fun e => (HIx.out.free.2 p e.symm).2 rfl)).trans HIx.out.cell; simp [World.frozen?, hb]))
      have HEz := hid (show Ext w (W2.setCell ⟨p, 0, none⟩ (.slice A2 l2 c2)) from HB2.out.setCell HIx.out.lo.2 _)
      go_roundw
      case rel => exact ⟨k + 1, by omega, by go_num, by rw [Hts.out]; exact ⟨_, _, HF2.out⟩, HEz⟩
      case measure => simp [intOf]; omega
    · obtain rfl : k = n := by omega
      have hlt' : ¬ ((k : Int) < (k : Int)) := by omega
      have hall : xs.take k = xs := List.take_of_length_le (by have := hn.out; omega)
      rw [hall] at HI
      have hpost := hid (show SMade w n1 xs (.returned (.tuple #[.pointer (some ⟨p, 0, none⟩), .int .i64 0])) wr from ⟨HE.out, .inr ⟨H0.out, p, L, _, rfl, HI.out.done, HI.out.view, ⟨HI.out.rowLo⟩, fun k h1 h2 => .inr (.inr (.inr ⟨h1, h2⟩)), fun k hk => by
        rcases hk with h | h | h | h
        · have := (HI.out.lt k (.inl h)).1; omega
        · have := (HI.out.lt k (.inr (.inl h))).1; omega
        · have := (HI.out.lt k (.inr (.inr (.inl h)))).1; omega
        · exact h.1, fun k hk => HI.out.lt k (hk.elim (fun h => .inr (.inr (.inl h))) .inl)⟩⟩)
      go_wp2
      go_ret2
      exact hpost.out
end Go.Proofs.YtakebdeldndaaaaGreatDoor
/- registrarref15.Clone. -/
namespace Go.Proofs.YtakebdeldndaaaaGreatDoor
open Go Go.RowKit
set_option linter.unusedSimpArgs false
set_option linter.unusedVariables false
theorem rows_ent {w w' : World} {K K' : Nat → Prop} : ∀ {xs : Ents} {cs : List Value}, Rows REnt w K xs cs → Rows REnt w' K' xs cs
  | [], _, h => h
  | x :: xs, _, ⟨c, r, e, hc, hr⟩ => ⟨c, r, e, hc, rows_ent hr⟩
def emX (base : Nat) : SPred := ⟨fun v w => ∃ g, v = .slice (some ⟨g, 0, none⟩) 0 0 ∧ OwnK REnt 150 (fun _ => False) w base v [], fun _ _ _ ⟨g, e, h⟩ hE => ⟨g, e, h.ext hE fun _ h => h.elim⟩⟩
def enX (base : Nat) (D : Ents) : SPred := ⟨fun v w => ∃ A c, v = .slice A D.length c ∧ SlR REnt w (fun k => k < w.heap.size ∧ ¬ k < base) A D.length c D, fun _ _ _ ⟨A, c, e, h⟩ hE => ⟨A, c, e, (h.ext fun k hk => hE.block k hk.1).mono fun k hk => ⟨Nat.lt_of_lt_of_le hk.1 hE.size, hk.2⟩⟩⟩
def bdX (base : Nat) (x y z : Value) (D : Ents) : SPred := ⟨fun v w => ∃ A c, v = .agg #[x, y, z, .slice A D.length c] ∧ SlR REnt w (fun k => k < w.heap.size ∧ ¬ k < base) A D.length c D, fun _ _ _ ⟨A, c, e, h⟩ hE => ⟨A, c, e, (h.ext fun k hk => hE.block k hk.1).mono fun k hk => ⟨Nat.lt_of_lt_of_le hk.1 hE.size, hk.2⟩⟩⟩
def bxX (base : Nat) (x y z : Value) (D : Ents) : SPred := ⟨fun v w => ∃ s A c, v = .pointer (some ⟨s, 0, none⟩) ∧ base ≤ s ∧ w.heap[s]? = some (.cells #[x, y, z, .slice A D.length c] 158) ∧ SlR REnt w (fun k => (k < w.heap.size ∧ ¬ k < base) ∧ k ≠ s) A D.length c D,
  fun _ _ _ ⟨s, A, c, e, h0, h1, h⟩ hE => ⟨s, A, c, e, h0, (hE.block s (Array.getElem?_eq_some_iff.1 h1).1).trans h1, (h.ext fun k hk => hE.block k hk.1.1).mono fun k hk => ⟨⟨Nat.lt_of_lt_of_le hk.1.1 hE.size, hk.1.2⟩, hk.2⟩⟩⟩
structure SClone (w : World) (S : Nat → Prop) (d : DefV) (D : Ents) (e : Ending) (w' : World) : Prop where
  ext : Ext w w'
  ex : ∃ y', e = .returned (.pointer (some ⟨y', 0, none⟩)) ∧ w.heap.size ≤ y' ∧ ∀ S' : Nat → Prop, (∀ k, S' k → (S k ∧ k < w.heap.size) ∨ k = y') → S' y' → RefSt w' S' y' d D
set_option maxRecDepth 100000 in
set_option maxHeartbeats 2000000 in
theorem refStClone_at {w : World} {S : Nat → Prop} {y : Nat} {d : DefV} {D : Ents} (h : RefSt w S y d D) (hD : D.length ≤ 999000) :
    Calls Tryz.prog 143 #[.pointer (some ⟨y, 0, none⟩)] w fun e w' => SClone w S d D e w' := by
  obtain ⟨A, c, B, m, b, h1, h2, h3⟩ := h.box
  have H2 := hid h2; have H3 := hid h3; have Hc := hid h1
  obtain rfl := h3.1
  clear h h1 h2 h3
  go_enter Tryz.func143, Tryz.ntmps143
  go_wp2_with fail
  apply wp_drawn [isV _, isV _, isV _, isV _, emX w.heap.size, isV _, isV _, isV _, isV _, enX w.heap.size D, bdX w.heap.size (.int .i64 d.kind) (.string (str d.field)) (.slice A d.q.length c) D, bxX w.heap.size (.int .i64 d.kind) (.string (str d.field)) (.slice A d.q.length c) D, bxX w.heap.size (.int .i64 d.kind) (.string (str d.field)) (.slice A d.q.length c) D] (by kernel_rfl)
  · kernel_rfl
  · refine ⟨?rcs0, ?rcs1, ?rcs2, ?rcs3, ?rcs4, ?rcs5, ?rcs6, ?rcs7, ?rcs8, ?rcs9, ?rcs10, ?rcs11, ?rcs12, trivial⟩
    case rcs0 | rcs1 | rcs2 =>
      intro v W hE hd; simp only [Region.wanted, ↓reduceIte]; (try simp [deps, waitsOn, Region.binds, knowing, isV, ownsV, anyV] at hd); simp only [putAll, List.take_succ_cons, List.take_zero, List.drop_succ_cons, List.drop_zero, Act.put, List.setIfInBounds_toArray, List.set_cons_zero, List.set_cons_succ, Nat.zero_add, Nat.reduceAdd]; go_simp; exact ⟨Below.refl _ _, rfl⟩
    case rcs3 =>
      intro v W hE hd; simp only [Region.wanted, ↓reduceIte]; (try simp [deps, waitsOn, Region.binds, knowing, isV, ownsV, anyV] at hd); simp only [putAll, List.take_succ_cons, List.take_zero, List.drop_succ_cons, List.drop_zero, Act.put, List.setIfInBounds_toArray, List.set_cons_zero, List.set_cons_succ, Nat.zero_add, Nat.reduceAdd]
      have hb := (hE.block y (Array.getElem?_eq_some_iff.1 Hc.out).1).trans Hc.out
      have c0 : W.cell? ⟨y, 0, none⟩ = some (.int .i64 d.kind) := by rw [cell_of_row _ _ _ _ _ _ hb]; rfl
      have c1 : W.cell? ⟨y, 1, none⟩ = some (.string (str d.field)) := by rw [cell_of_row _ _ _ _ _ _ hb]; rfl
      have c2 : W.cell? ⟨y, 2, none⟩ = some (.slice A d.q.length c) := by rw [cell_of_row _ _ _ _ _ _ hb]; rfl
      clear hb
      go_simp
      exact ⟨Below.refl _ _, rfl⟩
    case rcs4 =>
      intro v W hE hd; simp only [Region.wanted, ↓reduceIte]; (try simp [deps, waitsOn, Region.binds, knowing, isV, ownsV, anyV] at hd); simp only [putAll, List.take_succ_cons, List.take_zero, List.drop_succ_cons, List.drop_zero, Act.put, List.setIfInBounds_toArray, List.set_cons_zero, List.set_cons_succ, Nat.zero_add, Nat.reduceAdd]
      have HE := hid (ext_alloc W (.cells #[] 150))
      have HO := hid (OwnK.empty (R := REnt) (K := fun _ => False) (e := 150) W w.heap.size hE.size)
      go_simp
      exact ⟨HE.out, _, rfl, HO.out⟩
    case rcs5 | rcs6 | rcs7 =>
      intro v W hE hd; simp only [Region.wanted, ↓reduceIte]; (try simp [deps, waitsOn, Region.binds, knowing, isV, ownsV, anyV] at hd); simp only [putAll, List.take_succ_cons, List.take_zero, List.drop_succ_cons, List.drop_zero, Act.put, List.setIfInBounds_toArray, List.set_cons_zero, List.set_cons_succ, Nat.zero_add, Nat.reduceAdd]; go_simp; exact ⟨Below.refl _ _, rfl⟩
    case rcs8 =>
      intro v W hE hd; simp only [Region.wanted, ↓reduceIte]; (try simp [deps, waitsOn, Region.binds, knowing, isV, ownsV, anyV] at hd); simp only [putAll, List.take_succ_cons, List.take_zero, List.drop_succ_cons, List.drop_zero, Act.put, List.setIfInBounds_toArray, List.set_cons_zero, List.set_cons_succ, Nat.zero_add, Nat.reduceAdd]
      have hb := (hE.block y (Array.getElem?_eq_some_iff.1 Hc.out).1).trans Hc.out
      have c3 : W.cell? ⟨y, 3, none⟩ = some (.slice B D.length b) := by rw [cell_of_row _ _ _ _ _ _ hb]; rfl
      clear hb
      go_simp
      exact ⟨Below.refl _ _, rfl⟩
    case rcs9 =>
      intro v W hE hd; simp only [Region.wanted, ↓reduceIte]; (try simp [deps, waitsOn, Region.binds, knowing, isV, ownsV, anyV] at hd); simp only [putAll, List.take_succ_cons, List.take_zero, List.drop_succ_cons, List.drop_zero, Act.put, List.setIfInBounds_toArray, List.set_cons_zero, List.set_cons_succ, Nat.zero_add, Nat.reduceAdd]
      obtain ⟨h4, h8⟩ := hd
      obtain ⟨g, e4, hO⟩ := (show ∃ g, v 4 = .slice (some ⟨g, 0, none⟩) 0 0 ∧ OwnK REnt 150 (fun _ => False) W w.heap.size (v 4) [] from h4)
      rw [e4] at hO
      have hrow : ∃ cs, Rows REnt W (fun _ => False) D cs ∧ RV W B cs := by
        obtain ⟨-, -, -, cs, hr, hv⟩ := H3.out.ext fun k hk => hE.block k hk.1
        refine ⟨cs, rows_ent hr, ?_⟩
        rcases hv with hv | ⟨b', o', e, -, hv⟩
        · exact .inl hv
        · exact .inr ⟨b', o', e, hv⟩
      obtain ⟨v', w', hrun, ho, hE2⟩ := run_app_fullK (P := Tryz.prog) (R := REnt) entinfo 147 g 0 rfl hO hE.size (fun _ h => h.elim) B b D.length D rfl hrow (by omega) (by decide)
      rw [List.nil_append] at ho
      obtain ⟨A', c', e', hS⟩ := ownK_out (S := fun k => k < w.heap.size) ho (fun _ h => h.elim) (fun k hk => hk)
      refine step_appN (.tmp 7) (.tmp 11) rfl e4 h8 hrun ?_
      exact ⟨v', rfl, hE2, A', c', e', hS⟩
    case rcs10 =>
      intro v W hE hd; simp only [Region.wanted, ↓reduceIte]; (try simp [deps, waitsOn, Region.binds, knowing, isV, ownsV, anyV] at hd); simp only [putAll, List.take_succ_cons, List.take_zero, List.drop_succ_cons, List.drop_zero, Act.put, List.setIfInBounds_toArray, List.set_cons_zero, List.set_cons_succ, Nat.zero_add, Nat.reduceAdd]
      obtain ⟨h3, h9⟩ := hd
      obtain ⟨A', c', e9, hS⟩ := (show ∃ A c, v 9 = .slice A D.length c ∧ SlR REnt W (fun k => k < W.heap.size ∧ ¬ k < w.heap.size) A D.length c D from h9)
      have HS := hid hS
      rw [h3, e9]
      clear h9 hS
      go_simp
      exact ⟨Below.refl _ _, A', c', rfl, HS.out⟩
    case rcs11 =>
      intro v W hE hd; simp only [Region.wanted, ↓reduceIte]; (try simp [deps, waitsOn, Region.binds, knowing, isV, ownsV, anyV] at hd); simp only [putAll, List.take_succ_cons, List.take_zero, List.drop_succ_cons, List.drop_zero, Act.put, List.setIfInBounds_toArray, List.set_cons_zero, List.set_cons_succ, Nat.zero_add, Nat.reduceAdd]
      obtain ⟨A', c', e9, hS⟩ := (show ∃ A' c', v 10 = .agg #[.int .i64 d.kind, .string (str d.field), .slice A d.q.length c, .slice A' D.length c'] ∧ SlR REnt W (fun k => k < W.heap.size ∧ ¬ k < w.heap.size) A' D.length c' D from by first | exact hd | exact hd.1)
      have HS := hid hS
      have HE := hid (ext_alloc W (.cells #[.int .i64 d.kind, .string (str d.field), .slice A d.q.length c, .slice A' D.length c'] 158))
      rw [e9]
      clear hS e9
      go_simp
      exact ⟨HE.out, _, A', c', rfl, hE.size, heap_alloc_last _ _, (HS.out.ext fun k hk => HE.out.block k hk.1).mono fun k hk => ⟨⟨Nat.lt_of_lt_of_le hk.1 HE.out.size, hk.2⟩, by have := hk.1; omega⟩⟩
    case rcs12 =>
      intro v W hE hd; simp only [Region.wanted, ↓reduceIte]; (try simp [deps, waitsOn, Region.binds, knowing, isV, ownsV, anyV] at hd); simp only [putAll, List.take_succ_cons, List.take_zero, List.drop_succ_cons, List.drop_zero, Act.put, List.setIfInBounds_toArray, List.set_cons_zero, List.set_cons_succ, Nat.zero_add, Nat.reduceAdd]
      go_simp
      exact ⟨Below.refl _ _, (show (bxX w.heap.size (.int .i64 d.kind) (.string (str d.field)) (.slice A d.q.length c) D).p (v 11) W from by first | exact hd | exact hd.1)⟩
  · rintro v W9 hE ⟨-, -, -, -, -, -, -, -, -, -, -, -, e12, -⟩
    have e12 := (show _ from e12)
    simp only [putAll, List.take_succ_cons, List.take_zero, List.drop_succ_cons, List.drop_zero, Act.put, List.setIfInBounds_toArray, List.set_cons_zero, List.set_cons_succ, Nat.zero_add, Nat.reduceAdd]
    obtain ⟨s, A', c', e, hs, hb, hS⟩ := (show ∃ s A' c', v 12 = .pointer (some ⟨s, 0, none⟩) ∧ w.heap.size ≤ s ∧ W9.heap[s]? = some (.cells #[.int .i64 d.kind, .string (str d.field), .slice A d.q.length c, .slice A' D.length c'] 158) ∧ SlR REnt W9 (fun k => (k < W9.heap.size ∧ ¬ k < w.heap.size) ∧ k ≠ s) A' D.length c' D from e12)
    rw [e]
    have hpost := hid (show SClone w S d D (.returned (.pointer (some ⟨s, 0, none⟩))) W9 from ⟨hE, s, rfl, hs, fun S' hS' hy => ⟨⟨A, c, A', _, c', hb,
      (H2.out.ext fun k hk => hE.block k hk.1).mono fun k hk => ⟨Nat.lt_of_lt_of_le hk.1 hE.size, fun h' => by
        rcases hS' k h' with h | h
        · exact hk.2 h.1
        · have := hk.1; omega⟩,
      hS.mono fun k hk => ⟨hk.1.1, fun h' => by
        rcases hS' k h' with h | h
        · exact hk.1.2 h.2
        · exact hk.2 h⟩⟩, hy⟩⟩)
    clear e12 e hs hb hS hE
    go_wp2
    go_ret
    exact hpost.out
end Go.Proofs.YtakebdeldndaaaaGreatDoor
/- registrarref16.Set.Clone. -/
namespace Go.Proofs.YtakebdeldndaaaaGreatDoor
open Go Go.RowKit
set_option linter.unusedSimpArgs false
set_option linter.unusedVariables false
theorem run_sapp {w : World} {base : Nat} {v : Value} {xs : List Nat} (ty : TypeId) (hown : OwnK Rep.ptr 154 (fun _ => False) w base v xs) (hbase : base ≤ w.heap.size) (a : Addr) (s : Nat) (hr : RV w (some a) [.pointer (some ⟨s, 0, none⟩)]) (hmax : xs.length ≤ 900000) :
    ∃ v' w', (Builtin.append_ #[151, 151] ty #[v, .slice (some a) 1 1]).run Tryz.prog w = .ok v' w' ∧ OwnK Rep.ptr 154 (fun _ => False) w' base v' (xs ++ [s]) ∧ w.grownBy w' v.ownBlock ∧ (v'.ownBlock = v.ownBlock ∨ v'.ownBlock = some w.heap.size) := by
  obtain ⟨cs, ho, hrow⟩ := hown
  have hx : OwnX Rep.ptr 154 0 w base v xs := ⟨cs, ho, rows_ptr hrow⟩
  obtain ⟨v', w', h1, ⟨cs2, ho2, hr2⟩, h3, h4⟩ := run_appX sptrinfo ty hx hbase a 1 1 [s] rfl ⟨_, Rows.single rfl, hr⟩ (by omega) (by decide)
  exact ⟨v', w', h1, ⟨cs2, ho2, rows_ptr hr2⟩, h3, h4⟩
theorem RefSt.less {w : World} {S S' : Nat → Prop} {y : Nat} {d : DefV} {D : Ents} (h : RefSt w S y d D) (hS : ∀ k, S' k → S k) (hy : S' y) : RefSt w S' y d D := (RefS.less (m := y) ⟨h, rfl⟩ hS hy hy).st
structure SClSt (n0 nW : Nat) (S0 : Nat → Prop) (d : DefV) (D : Ents) (y : Nat) (W : World) : Prop where
  lo : nW ≤ y
  st : ∀ S' : Nat → Prop, (∀ k, S' k → ((S0 k ∨ n0 ≤ k) ∧ k < nW) ∨ k = y) → S' y → RefSt W S' y d D
section
variable {n0 nW : Nat} {S0 : Nat → Prop} {d : DefV} {D : Ents} {y p : Nat} {W W' : World}
theorem SClSt.ext (h : SClSt n0 nW S0 d D y W) (hE : Ext W W') : SClSt n0 nW S0 d D y W' := ⟨h.lo, fun S' h1 h2 => (h.st S' h1 h2).ext hE⟩
theorem SClSt.kept (h : SClSt n0 nW S0 d D y W) (hk : Kept2 p p W W') (hp : n0 ≤ p ∧ p < nW) : SClSt n0 nW S0 d D y W' :=
  ⟨h.lo, fun S' h1 h2 => by
    have hl := h.lo
    have h3 := h.st (fun k => S' k ∨ k = p) (fun k hk => hk.elim (h1 k) fun e => .inl ⟨.inr (by omega), by omega⟩) (.inl h2)
    exact (h3.kept hk (.inr rfl) (.inr rfl) (by omega) (by omega)).less (fun k hk => .inl hk) h2⟩
theorem SClSt.grown {row : Option Nat} (h : SClSt n0 nW S0 d D y W) (hg : W.grownBy W' row) (hr : ∀ k, row = some k → n0 ≤ k ∧ k < nW) : SClSt n0 nW S0 d D y W' := by
  cases row with
  | none => exact h.ext ⟨hg.os, hg.tape, hg.output, hg.size, fun k hk => hg.block k hk (by simp)⟩
  | some g => exact h.kept (Kept2.of_grown hg (.inl rfl)) (hr g rfl)
theorem SClSt.lt (h : SClSt n0 nW S0 d D y W) : y < W.heap.size := (h.st (fun k => k = y) (fun k hk => .inr hk) rfl).lt
end
def qCl (n0 nW : Nat) (S0 : Nat → Prop) (d : DefV) (D : Ents) : SPred := ⟨fun v W => ∃ s, v = .pointer (some ⟨s, 0, none⟩) ∧ SClSt n0 nW S0 d D s W, fun _ _ _ ⟨s, e, h⟩ hE => ⟨s, e, h.ext hE⟩⟩
def qBx (n0 nW : Nat) (S0 : Nat → Prop) (d : DefV) (D : Ents) : SPred := ⟨fun v W => ∃ b s, v = .slice (some ⟨b, 0, none⟩) 1 1 ∧ nW ≤ b ∧ W.heap[b]? = some (.cells #[.pointer (some ⟨s, 0, none⟩)] 154) ∧ SClSt n0 nW S0 d D s W,
  fun _ _ _ ⟨b, s, e, h0, h1, h⟩ hE => ⟨b, s, e, h0, (hE.block b (Array.getElem?_eq_some_iff.1 h1).1).trans h1, h.ext hE⟩⟩
def qAp (X : Nat → Prop) (n0 p : Nat) (V : List (DefV × Ents)) (L : List Pc) : SPred := ⟨fun v W => ∃ x, SPreIs X n0 p V v (L ++ [x]) W, fun _ _ _ ⟨x, h⟩ hE => ⟨x, h.ext hE⟩⟩
structure SCloneB (w : World) (nW : Nat) (W : World) : Prop where
  ext : Ext w W
  size : nW ≤ W.heap.size
structure SClonedIs (w : World) (S0 : Nat → Prop) (L0 : List Pc) (e : Ending) (w' : World) : Prop where
  ext : Ext w w'
  ex : ∃ p v L, e = .returned (.pointer (some ⟨p, 0, none⟩)) ∧ SNewIs S0 w.heap.size p (viewP L0) v L w'
set_option maxRecDepth 100000 in
set_option maxHeartbeats 4000000 in
theorem refSetClone_at {w : World} {S0 : Nat → Prop} {p0 : Nat} {L0 : List Pc} (h : RSetIs w S0 p0 L0) (hS0 : ∀ k, S0 k → k < w.heap.size) (hl : L0.length ≤ 1000) (hDl : ∀ x ∈ L0, x.D.length ≤ 999000) :
    Calls Tryz.prog 107 #[.pointer (some ⟨p0, 0, none⟩)] w fun e w' => SClonedIs w S0 L0 e w' := by
  obtain ⟨A, c, hc, hrow⟩ := h.row
  have Hpcs := hid h.pcs
  have Hrow := hid hrow
  have HS0 := hid hS0
  have hnc := hrow.2.1
  have hcm := hrow.2.2.1
  have HEa := hid (ext_alloc w (.cells #[.slice none 0 0] 153))
  have hcell : (w.alloc (.cells #[.slice none 0 0] 153)).cell? ⟨p0, 0, none⟩ = some (.slice A L0.length c) := cell_below HEa.out (by rw [cell_of_row _ _ _ _ _ _ hc]; rfl)
  have Hc0 := hid (show w.cell? ⟨p0, 0, none⟩ = some (.slice A L0.length c) by rw [cell_of_row _ _ _ _ _ _ hc]; rfl)
  have HDl := hid hDl
  have HI := hid (show SNewIs S0 w.heap.size w.heap.size (viewP (L0.take 0)) (.slice none 0 0) [] (w.alloc (.cells #[.slice none 0 0] 153)) from
    ⟨heap_alloc_last _ _, OwnK.nil _ _, ScsIs.nil, rfl, ⟨fun k hk => (Blk.nil hk).elim, Nat.le_refl _⟩, HS0.out, Blk.nil, fun k hk => by cases hk⟩)
  clear h hc hrow hS0 hDl
  generalize hln : L0.length = n at *
  have hn := hid hln
  clear hln
  go_enter Tryz.func107, Tryz.ntmps107
  go_wp2_with fail
  clear hcell
  obtain ⟨p, hp⟩ : ∃ p, p = w.heap.size := ⟨_, rfl⟩
  have Hp := hid hp
  rw [← hp] at HI ⊢
  clear hp
  generalize w.alloc (.cells #[.slice none 0 0] 153) = w1 at *
  go_loopw [4] (fun i wr => ∃ k : Nat, k ≤ n ∧ i = .int .i64 (k : Int) ∧ Hid (∃ v L, SNewIs S0 p p (viewP (L0.take k)) v L wr) ∧ Hid (Ext w wr)) (fun i _ => n - (intOf i).toNat)
  case atStart => exact ⟨0, by omega, rfl, ⟨_, _, HI.out⟩, HEa⟩
  case round =>
    obtain ⟨k, hk, rfl, HI', HE⟩ := hrel
    clear HI
    obtain ⟨u0, L, hI⟩ := HI'.out
    have HI := hid hI
    clear hI HI'
    have c0 := cell_below HE.out Hc0.out
    by_cases hlt : k < n
    · have hkx : k < L0.length := by have := hn.out; omega
      have hlt' : (k : Int) < (n : Int) := by omega
      have hk00 : ¬ ((k : Int) < 0) := by omega
      have hk0 : (0 : Int) ≤ (k : Int) := by omega
      obtain ⟨b, o, rfl, -, f0⟩ := ptr_at Hrow.out k (by rw [List.length_map]; exact hkx)
      rw [List.getElem_map] at f0
      have HX := hid (show ∀ W, Ext w W → RefSt W (fun j => S0 j ∨ p ≤ j) L0[k].s L0[k].d L0[k].D from fun W hE => ((Hpcs.out.each _ (List.getElem_mem hkx)).more hE (fun j hj => hj.imp id fun h => by have := Hp.out; omega) (.inl (Hpcs.out.each _ (List.getElem_mem hkx)).sIn) (.inl (Hpcs.out.each _ (List.getElem_mem hkx)).mIn)).st)
      have HDk := hid (HDl.out _ (List.getElem_mem hkx))
      have HV := hid (show viewP (L0.take (k + 1)) = viewP (L0.take k) ++ [(L0[k].d, L0[k].D)] by unfold viewP; rw [List.take_succ_eq_append_getElem hkx, List.map_append]; rfl)
      have HXl := hid (show L0[k].s < p ∧ L0[k].m < p from by
        have h1 := (Hpcs.out.each _ (List.getElem_mem hkx)).lt
        have := Hp.out; omega)
      have Hnl := hid (show (L.map (·.s)).length ≤ 900000 from by
        have h1 := congrArg List.length HI.out.view
        unfold viewP at h1
        rw [List.length_map, List.length_map, List.length_take] at h1
        rw [List.length_map]; omega)
      generalize L0[k] = x0 at *
      generalize viewP (L0.take k) = V at *
      obtain ⟨s0, m0, d, D⟩ := x0
      dsimp only at HX HDk HV HXl f0 ⊢
      have Hown := hid (fun j hj => HI.out.ownLt j hj)
      have Hof := hid HI.out.free.2
      have HpL := hid HI.out.pLt
      have Hf := hid f0
      clear f0
      go_wp2_with fail
      clear c0
      obtain ⟨nW, hnW⟩ : ∃ nW, nW = wr.heap.size := ⟨_, rfl⟩
      have HnW := hid hnW
      clear hnW
      apply wp_drawn_pg 14 17 (Kept2 p p) (fun a b => a.grownBy b u0.ownBlock) (SCloneB w nW) (Ext wr) (fun W => W.heap[p]? = some (.cells #[u0] 153)) (fun W => ∃ v' x, SNewIs S0 p p (V ++ [(d, D)]) v' (L ++ [x]) W) [isV _, isV _, isV _, isV _, isV u0, isV _, isV _, isV _, isV (.slice (some ⟨b, o, none⟩) n c), isV _, isV _, isV (.pointer (some ⟨s0, 0, none⟩)), qCl p nW S0 d D, qBx p nW S0 d D, qAp S0 p p (V ++ [(d, D)]) L, isV _, isV _, anyV] (by kernel_rfl)
      · kernel_rfl
      · kernel_rfl
      · intro W hE
        exact ⟨⟨HE.out.trans' hE, by rw [HnW.out]; exact hE.size⟩, hE⟩
      · intro W W' hE
        exact ⟨Kept2.of_ext hE, fun h => ⟨h.ext.trans' hE, Nat.le_trans h.size hE.size⟩, fun h => h.trans' hE, fun h => (hE.block p (Array.getElem?_eq_some_iff.1 h).1).trans h, fun ⟨v', x, h⟩ => ⟨v', x, h.ext hE⟩⟩
      · refine ⟨?cls0, ?cls1, ?cls2, ?cls3, ?cls4, ?cls5, ?cls6, ?cls7, ?cls8, ?cls9, ?cls10, ?cls11, ?cls12, ?cls13, ?cls14, ?cls15, ?cls16, ?cls17, trivial⟩
        case cls0 =>
          refine @stepPg_quiet _ _ _ _ _ _ _ _ _ _ _ _ _ _ (by decide) (by decide) ?_
          intro v W hE hd; simp only [Region.wanted, ↓reduceIte]; (try simp [deps, waitsOn, Region.binds, knowing, isV, ownsV, anyV] at hd); simp only [putAll, List.take_succ_cons, List.take_zero, List.drop_succ_cons, List.drop_zero, Act.put, List.setIfInBounds_toArray, List.set_cons_zero, List.set_cons_succ, Nat.zero_add, Nat.reduceAdd]; go_simp; exact ⟨Below.refl _ _, rfl⟩
        case cls1 =>
          refine @stepPg_quiet _ _ _ _ _ _ _ _ _ _ _ _ _ _ (by decide) (by decide) ?_
          intro v W hE hd; simp only [Region.wanted, ↓reduceIte]; (try simp [deps, waitsOn, Region.binds, knowing, isV, ownsV, anyV] at hd); simp only [putAll, List.take_succ_cons, List.take_zero, List.drop_succ_cons, List.drop_zero, Act.put, List.setIfInBounds_toArray, List.set_cons_zero, List.set_cons_succ, Nat.zero_add, Nat.reduceAdd]; go_simp; exact ⟨Below.refl _ _, rfl⟩
        case cls2 =>
          refine @stepPg_quiet _ _ _ _ _ _ _ _ _ _ _ _ _ _ (by decide) (by decide) ?_
          intro v W hE hd; simp only [Region.wanted, ↓reduceIte]; (try simp [deps, waitsOn, Region.binds, knowing, isV, ownsV, anyV] at hd); simp only [putAll, List.take_succ_cons, List.take_zero, List.drop_succ_cons, List.drop_zero, Act.put, List.setIfInBounds_toArray, List.set_cons_zero, List.set_cons_succ, Nat.zero_add, Nat.reduceAdd]; go_simp; exact ⟨Below.refl _ _, rfl⟩
        case cls3 =>
          refine @stepPg_quiet _ _ _ _ _ _ _ _ _ _ _ _ _ _ (by decide) (by decide) ?_
          intro v W hE hd; simp only [Region.wanted, ↓reduceIte]; (try simp [deps, waitsOn, Region.binds, knowing, isV, ownsV, anyV] at hd); simp only [putAll, List.take_succ_cons, List.take_zero, List.drop_succ_cons, List.drop_zero, Act.put, List.setIfInBounds_toArray, List.set_cons_zero, List.set_cons_succ, Nat.zero_add, Nat.reduceAdd]; go_simp; exact ⟨Below.refl _ _, rfl⟩
        case cls4 =>
          refine @stepPg_early _ _ _ _ _ _ _ _ _ _ _ _ _ _ (by decide) (by decide) (by kernel_rfl) ?_
          intro v W hE hd; simp only [Region.wanted, ↓reduceIte]; (try simp [deps, waitsOn, Region.binds, knowing, isV, ownsV, anyV] at hd); simp only [putAll, List.take_succ_cons, List.take_zero, List.drop_succ_cons, List.drop_zero, Act.put, List.setIfInBounds_toArray, List.set_cons_zero, List.set_cons_succ, Nat.zero_add, Nat.reduceAdd]
          have e1 : W.cell? ⟨p, 0, none⟩ = some u0 := by rw [cell_of_row _ _ _ _ _ _ (HI.out.ext hE.2).cell]; rfl
          go_simp
          exact ⟨Below.refl _ _, rfl⟩
        case cls5 =>
          refine @stepPg_quiet _ _ _ _ _ _ _ _ _ _ _ _ _ _ (by decide) (by decide) ?_
          intro v W hE hd; simp only [Region.wanted, ↓reduceIte]; (try simp [deps, waitsOn, Region.binds, knowing, isV, ownsV, anyV] at hd); simp only [putAll, List.take_succ_cons, List.take_zero, List.drop_succ_cons, List.drop_zero, Act.put, List.setIfInBounds_toArray, List.set_cons_zero, List.set_cons_succ, Nat.zero_add, Nat.reduceAdd]; go_simp; exact ⟨Below.refl _ _, rfl⟩
        case cls6 =>
          refine @stepPg_quiet _ _ _ _ _ _ _ _ _ _ _ _ _ _ (by decide) (by decide) ?_
          intro v W hE hd; simp only [Region.wanted, ↓reduceIte]; (try simp [deps, waitsOn, Region.binds, knowing, isV, ownsV, anyV] at hd); simp only [putAll, List.take_succ_cons, List.take_zero, List.drop_succ_cons, List.drop_zero, Act.put, List.setIfInBounds_toArray, List.set_cons_zero, List.set_cons_succ, Nat.zero_add, Nat.reduceAdd]; go_simp; exact ⟨Below.refl _ _, rfl⟩
        case cls7 =>
          refine @stepPg_quiet _ _ _ _ _ _ _ _ _ _ _ _ _ _ (by decide) (by decide) ?_
          intro v W hE hd; simp only [Region.wanted, ↓reduceIte]; (try simp [deps, waitsOn, Region.binds, knowing, isV, ownsV, anyV] at hd); simp only [putAll, List.take_succ_cons, List.take_zero, List.drop_succ_cons, List.drop_zero, Act.put, List.setIfInBounds_toArray, List.set_cons_zero, List.set_cons_succ, Nat.zero_add, Nat.reduceAdd]; go_simp; exact ⟨Below.refl _ _, rfl⟩
        case cls8 =>
          refine @stepPg_quiet _ _ _ _ _ _ _ _ _ _ _ _ _ _ (by decide) (by decide) ?_
          intro v W hE hd; simp only [Region.wanted, ↓reduceIte]; (try simp [deps, waitsOn, Region.binds, knowing, isV, ownsV, anyV] at hd); simp only [putAll, List.take_succ_cons, List.take_zero, List.drop_succ_cons, List.drop_zero, Act.put, List.setIfInBounds_toArray, List.set_cons_zero, List.set_cons_succ, Nat.zero_add, Nat.reduceAdd]
          have e1 := cell_below hE.ext Hc0.out
          go_simp
          exact ⟨Below.refl _ _, rfl⟩
        case cls9 =>
          refine @stepPg_quiet _ _ _ _ _ _ _ _ _ _ _ _ _ _ (by decide) (by decide) ?_
          intro v W hE hd; simp only [Region.wanted, ↓reduceIte]; (try simp [deps, waitsOn, Region.binds, knowing, isV, ownsV, anyV] at hd); simp only [putAll, List.take_succ_cons, List.take_zero, List.drop_succ_cons, List.drop_zero, Act.put, List.setIfInBounds_toArray, List.set_cons_zero, List.set_cons_succ, Nat.zero_add, Nat.reduceAdd]; go_simp; exact ⟨Below.refl _ _, rfl⟩
        case cls10 =>
          refine @stepPg_quiet _ _ _ _ _ _ _ _ _ _ _ _ _ _ (by decide) (by decide) ?_
          intro v W hE hd; simp only [Region.wanted, ↓reduceIte]; (try simp [deps, waitsOn, Region.binds, knowing, isV, ownsV, anyV] at hd); simp only [putAll, List.take_succ_cons, List.take_zero, List.drop_succ_cons, List.drop_zero, Act.put, List.setIfInBounds_toArray, List.set_cons_zero, List.set_cons_succ, Nat.zero_add, Nat.reduceAdd]; go_simp; exact ⟨Below.refl _ _, rfl⟩
        case cls11 =>
          refine @stepPg_quiet _ _ _ _ _ _ _ _ _ _ _ _ _ _ (by decide) (by decide) ?_
          intro v W hE hd; simp only [Region.wanted, ↓reduceIte]; (try simp [deps, waitsOn, Region.binds, knowing, isV, ownsV, anyV] at hd); simp only [putAll, List.take_succ_cons, List.take_zero, List.drop_succ_cons, List.drop_zero, Act.put, List.setIfInBounds_toArray, List.set_cons_zero, List.set_cons_succ, Nat.zero_add, Nat.reduceAdd]
          have e1 := cell_below hE.ext Hf.out
          go_simp
          exact ⟨Below.refl _ _, rfl⟩
        case cls12 =>
          refine @stepPg_quiet _ _ _ _ _ _ _ _ _ _ _ _ _ _ (by decide) (by decide) ?_
          intro v W hE hd; simp only [Region.wanted, ↓reduceIte]; (try simp [deps, waitsOn, Region.binds, knowing, isV, ownsV, anyV] at hd); simp only [putAll, List.take_succ_cons, List.take_zero, List.drop_succ_cons, List.drop_zero, Act.put, List.setIfInBounds_toArray, List.set_cons_zero, List.set_cons_succ, Nat.zero_add, Nat.reduceAdd]
          go_simp
          refine (refStClone_at (d := d) (HX.out _ hE.ext) HDk.out).mono ?_
          rintro z w' ⟨hE2, s1, rfl, hs1, hS1⟩
          have hcl : SClSt p nW S0 d D s1 w' := ⟨Nat.le_trans hE.size hs1, fun S' h1 h2 => hS1 S' (fun j hj => (h1 j hj).imp (fun h => ⟨h.1, Nat.lt_of_lt_of_le h.2 hE.size⟩) id) h2⟩
          have HC := hid hcl; have HE2 := hid hE2
          clear hcl hS1 hE2
          go_simp
          exact ⟨HE2.out, s1, rfl, HC.out⟩
        case cls13 =>
          refine @stepPg_quiet _ _ _ _ _ _ _ _ _ _ _ _ _ _ (by decide) (by decide) ?_
          intro v W hE hd; simp only [Region.wanted, ↓reduceIte]; (try simp [deps, waitsOn, Region.binds, knowing, isV, ownsV, anyV] at hd); simp only [putAll, List.take_succ_cons, List.take_zero, List.drop_succ_cons, List.drop_zero, Act.put, List.setIfInBounds_toArray, List.set_cons_zero, List.set_cons_succ, Nat.zero_add, Nat.reduceAdd]
          obtain ⟨s1, e6, hcl⟩ := hd
          have HC := hid hcl
          clear hcl
          rw [e6]
          go_simp
          exact ⟨ext_alloc _ _, W.heap.size, s1, rfl, hE.size, heap_alloc_last _ _, HC.out.ext (ext_alloc _ _)⟩
        case cls14 =>
          refine @stepPg_fst _ _ _ _ _ _ _ _ _ _ _ _ _ ?_
          intro v W hB hd; refine ⟨rfl, ?_⟩; (try simp [deps, waitsOn, Region.binds, knowing, isV, ownsV, anyV] at hd); simp only [putAll, List.take_succ_cons, List.take_zero, List.drop_succ_cons, List.drop_zero, Act.put, List.setIfInBounds_toArray, List.set_cons_zero, List.set_cons_succ, Nat.zero_add, Nat.reduceAdd]
          obtain ⟨hB, hI⟩ := hB
          obtain ⟨e4, ⟨b1, s1, e7, hb1, hcl0, hcl⟩, -⟩ := hd
          have hbp : p ≤ W.heap.size := by have := hB.size; have := HpL.out; have := HnW.out; omega
          obtain ⟨v', w', hrun, ho, hg, hat⟩ := run_sapp _ (HI.out.ext hI).own hbp ⟨b1, 0, none⟩ s1 (.inr ⟨b1, 0, rfl, fun j u hu => by
            match j, hu with
            | 0, hu => simp at hu; subst hu; rw [cell_of_row _ _ _ _ _ _ hcl0]; rfl⟩) Hnl.out
          have hpre := HI.out.pre (x := ⟨s1, s1, d, D⟩) hI (by have h3 := hcl.lo; have h4 := HnW.out; rw [h4] at h3; exact ⟨h3, h3⟩) ⟨hcl.lt, hcl.lt⟩ (fun S' hS h1 h2 => ⟨hcl.st S' (fun j hj => by
            have h3 := hcl.lo; have h4 := HpL.out; have h5 := HnW.out
            rcases hS j hj with h | h | h | h
            · exact .inl ⟨.inl h, by have := HS0.out j h; have := HE.out.size; omega⟩
            · exact .inl ⟨.inr h.1, by omega⟩
            · exact .inr h
            · exact .inr h) h1, rfl⟩) ho hg hat
          refine step_appN (.tmp 20) (.tmp 29) rfl e4 e7 hrun ?_
          refine ⟨v', rfl, ⟨⟨⟨?_, Nat.le_trans hB.size hg.size⟩, hpre.2⟩, hg⟩, _, hpre.1⟩
          exact hB.ext.grown hg hB.ext.size fun j hj => by have := (Hown.out j hj).1; have := Hp.out; omega
        case cls15 =>
          refine @stepPg_quiet _ _ _ _ _ _ _ _ _ _ _ _ _ _ (by decide) (by decide) ?_
          intro v W hE hd; simp only [Region.wanted, ↓reduceIte]; (try simp [deps, waitsOn, Region.binds, knowing, isV, ownsV, anyV] at hd); simp only [putAll, List.take_succ_cons, List.take_zero, List.drop_succ_cons, List.drop_zero, Act.put, List.setIfInBounds_toArray, List.set_cons_zero, List.set_cons_succ, Nat.zero_add, Nat.reduceAdd]; go_simp; exact ⟨Below.refl _ _, rfl⟩
        case cls16 =>
          refine @stepPg_quiet _ _ _ _ _ _ _ _ _ _ _ _ _ _ (by decide) (by decide) ?_
          intro v W hE hd; simp only [Region.wanted, ↓reduceIte]; (try simp [deps, waitsOn, Region.binds, knowing, isV, ownsV, anyV] at hd); simp only [putAll, List.take_succ_cons, List.take_zero, List.drop_succ_cons, List.drop_zero, Act.put, List.setIfInBounds_toArray, List.set_cons_zero, List.set_cons_succ, Nat.zero_add, Nat.reduceAdd]; go_simp; exact ⟨Below.refl _ _, rfl⟩
        case cls17 =>
          refine @stepPg_snd _ _ _ _ _ _ _ _ _ _ _ _ _ (by decide) ?_
          intro v W hB hd; refine ⟨rfl, ?_⟩; (try simp [deps, waitsOn, Region.binds, knowing, isV, ownsV, anyV] at hd); simp only [putAll, List.take_succ_cons, List.take_zero, List.drop_succ_cons, List.drop_zero, Act.put, List.setIfInBounds_toArray, List.set_cons_zero, List.set_cons_succ, Nat.zero_add, Nat.reduceAdd]
          obtain ⟨hB, hI⟩ := hB
          obtain ⟨e10, ⟨x, hpre⟩, -⟩ := hd
          obtain ⟨A8, l8, c8, e8⟩ : ∃ A l c, v 14 = .slice A l c := (let ⟨A, c, _, e, _⟩ := hpre.own.read; ⟨A, _, c, e⟩)
          rw [e8] at hpre ⊢
          have hst := hpre.store hI
          have g1 : W.cell? ⟨p, 0, none⟩ = some u0 := by rw [cell_of_row _ _ _ _ _ _ hI]; rfl
          have g2 : W.frozen? ⟨p, 0, none⟩ = false := by have := hI; simp [World.frozen?, this]
          have HS := hid hst
          have HB2 := hid (show SCloneB w nW (W.setCell ⟨p, 0, none⟩ (.slice A8 l8 c8)) from ⟨hB.ext.setCell (by have := Hp.out; show w.heap.size ≤ p; omega) _, by have := hB.size; simpa using this⟩)
          have HK := hid (show Kept2 p p W (W.setCell ⟨p, 0, none⟩ (.slice A8 l8 c8)) from ⟨rfl, rfl, rfl, by simp, fun k hk h1 _ => heap_setCell_other W ⟨p, 0, none⟩ k _ (fun e => h1 e)⟩)
          clear hst hpre hI hB e8
          go_simp
          exact ⟨⟨⟨HB2.out, _, x, HS.out⟩, HK.out⟩, undef, trivial⟩
      · intro i w1 w2 w3 hT h
        match i, h with
        | 0, h => exact h
        | 1, h => exact h
        | 2, h => exact h
        | 3, h => exact h
        | 4, h => exact h
        | 5, h => exact h
        | 6, h => exact h
        | 7, h => exact h
        | 8, h => exact h
        | 9, h => exact h
        | 10, h => exact h
        | 11, h => exact h
        | 12, h =>
          exact (fun ⟨s, e, h⟩ => ⟨s, e, h.kept hT ⟨Nat.le_refl _, by have := HpL.out; have := HnW.out; omega⟩⟩ : _ → _) h
        | 13, h =>
          exact (fun ⟨b, s, e, h0, h1, h⟩ => ⟨b, s, e, h0, (hT.block b (Array.getElem?_eq_some_iff.1 h1).1 (by have := HpL.out; have := HnW.out; omega) (by have := HpL.out; have := HnW.out; omega)).trans h1, h.kept hT ⟨Nat.le_refl _, by have := HpL.out; have := HnW.out; omega⟩⟩ : _ → _) h
        | 14, h =>
          exact (fun ⟨x, h⟩ => ⟨x, h.kept hT⟩ : _ → _) h
        | 15, h => exact h
        | 16, h => exact h
        | 17, h => exact h
        | _ + 18, h => exact h
      · intro i w1 w2 w3 hip hT h
        match i, hip, h with
        | 0, hip, h => exact h
        | 1, hip, h => exact h
        | 2, hip, h => exact h
        | 3, hip, h => exact h
        | 4, hip, h => exact h
        | 5, hip, h => exact h
        | 6, hip, h => exact h
        | 7, hip, h => exact h
        | 8, hip, h => exact h
        | 9, hip, h => exact h
        | 10, hip, h => exact h
        | 11, hip, h => exact h
        | 12, hip, h =>
          exact (fun ⟨s, e, h⟩ => ⟨s, e, h.grown hT fun j hj => by have := Hown.out j hj; have := HnW.out; omega⟩ : _ → _) h
        | 13, hip, h =>
          exact (fun ⟨b, s, e, h0, h1, h⟩ => ⟨b, s, e, h0, (hT.block b (Array.getElem?_eq_some_iff.1 h1).1 (fun e' => by have := Hown.out b e'.symm; have := HnW.out; omega)).trans h1, h.grown hT fun j hj => by have := Hown.out j hj; have := HnW.out; omega⟩ : _ → _) h
        | 14, hip, h =>
          exact absurd rfl hip
        | 15, hip, h => exact h
        | 16, hip, h => exact h
        | 17, hip, h => exact h
        | _ + 18, hip, h => exact h
      · rintro v W9 hB hI ⟨-, -, -, -, -, -, -, -, -, -, -, -, -, -, -, -, -, -, -⟩
        simp only [putAll, List.take_succ_cons, List.take_zero, List.drop_succ_cons, List.drop_zero, Act.put, List.setIfInBounds_toArray, List.set_cons_zero, List.set_cons_succ, Nat.zero_add, Nat.reduceAdd]
        obtain ⟨v', x, hI'⟩ := hI
        have HIf := hid hI'; have HEf := hid hB.ext
        clear hI' hB
        go_wp2_with fail
        go_roundw
        case rel => exact ⟨k + 1, by omega, by go_num, by rw [HV.out]; exact ⟨_, _, HIf.out⟩, HEf⟩
        case measure => simp [intOf]; omega
    · obtain rfl : k = n := by omega
      have hlt' : ¬ ((k : Int) < (k : Int)) := by omega
      have hall : L0.take k = L0 := List.take_of_length_le (by have := hn.out; omega)
      rw [hall] at HI
      have hpost := hid (show SClonedIs w S0 L0 (.returned (.pointer (some ⟨p, 0, none⟩))) wr from ⟨HE.out, p, u0, L, rfl, by have := HI.out; rw [Hp.out] at this ⊢; exact this⟩)
      go_wp2
      go_ret
      exact hpost.out
end Go.Proofs.YtakebdeldndaaaaGreatDoor
/- registrarref16.Set.Apply. -/
namespace Go.Proofs.YtakebdeldndaaaaGreatDoor
open Go Go.RowKit
set_option linter.unusedSimpArgs false
set_option linter.unusedVariables false
end Go.Proofs.YtakebdeldndaaaaGreatDoor
/- registrarref16.Set: Entries, Put. -/
namespace Go.Proofs.YtakebdeldndaaaaGreatDoor
open Go Go.RowKit
set_option linter.unusedSimpArgs false
set_option linter.unusedVariables false
theorem RefSt.ents {w : World} {S : Nat → Prop} {y : Nat} {d : DefV} {D : Ents} (h : RefSt w S y d D) : ∃ B b, w.cell? ⟨y, 3, none⟩ = some (.slice B D.length b) ∧ SlR REnt w (· < w.heap.size) B D.length b D := by
  obtain ⟨A, c, B, m, b, h1, h2, h3⟩ := h.box
  obtain rfl := h3.1
  exact ⟨B, b, by rw [cell_of_row _ _ _ _ _ _ h1]; rfl, slR_out h3⟩
set_option maxRecDepth 100000 in
set_option maxHeartbeats 4000000 in
theorem refSetPut_at {w : World} {S : Nat → Prop} {p : Nat} {L : List Pc} (h : RSetIs w S p L) (hf : PutFit (viewP L)) :
    Calls Tryz.prog 54 #[.pointer (some ⟨p, 0, none⟩)] w fun e w' => PutIs w (setB (viewP L)) e w' := by
  obtain ⟨A, c, hc, hrow⟩ := h.row
  have c0 : w.cell? ⟨p, 0, none⟩ = some (.slice A L.length c) := by rw [cell_of_row _ _ _ _ _ _ hc]; rfl
  have hnc := hrow.2.1
  have hcm := hrow.2.2.1
  have hl : L.length ≤ 4 := by have := hf.few; unfold viewP at this; rwa [List.length_map] at this
  have H := hid h; have Hf := hid hf
  have HRow := hid hrow
  have hE0 := ext_alloc w (.cells #[] 5)
  have HE0 := hid hE0
  clear h hf hc hrow
  generalize hn : L.length = n at *
  have Hn := hid hn
  have Hc0 := hid c0
  clear hn c0 hE0
  go_enter Tryz.func54, Tryz.ntmps54
  go_wp2_with fail
  go_loopw [3, 4] (fun u i wr => ∃ k : Nat, k ≤ n ∧ i = .int .i64 (k : Int) ∧ Hid (OB wr w.heap.size u (setB ((viewP L).take k))) ∧ Hid (Ext w wr)) (fun _ i _ => n - (intOf i).toNat)
  case atStart => exact ⟨0, by omega, rfl, OB_empty w _ (Nat.le_refl _), HE0⟩
  case round =>
    obtain ⟨k, hk, rfl, HO, HE⟩ := hrel
    have c0 := cell_below HE.out Hc0.out
    by_cases hlt : k < n
    · have hkx : k < L.length := by have := Hn.out; omega
      have hlt' : (k : Int) < (n : Int) := by omega
      have hk00 : ¬ ((k : Int) < 0) := by omega
      have hk0 : (0 : Int) ≤ (k : Int) := by omega
      obtain ⟨b, o, rfl, -, f0⟩ := ptr_at HRow.out k (by rw [List.length_map]; exact hkx)
      rw [List.getElem_map] at f0
      have hx := (H.out.pcs.each _ (List.getElem_mem hkx)).st
      obtain ⟨B, bc, e0, hE0⟩ := hx.ents
      have hvl : k < (viewP L).length := by unfold viewP; rw [List.length_map]; exact hkx
      have hvk : (viewP L)[k] = (L[k].d, L[k].D) := by simp only [viewP, List.getElem_map]
      have hfr := Hf.out.row _ (List.getElem_mem hvl)
      have Hnx := hid (setB_next hvl)
      have Hlen := hid (Hf.out.len k)
      rw [hvk] at hfr
      have Hvk := hid (show setB ((viewP L).take (k + 1)) = setB ((viewP L).take k) ++ stB L[k].D by rw [Hnx.out, hvk])
      have Hfr := hid hfr
      clear hx hvl hvk hfr Hnx
      generalize L[k] = x at *
      obtain ⟨s, m, d, D⟩ := x
      dsimp only at f0 e0 hE0 Hvk Hfr
      have HEn := hid hE0
      have hem := hE0.2.1
      have hemm := hE0.2.2.1
      generalize hdl : D.length = nD at *
      have HnD := hid hdl
      have Hc := hid (And.intro Hc0.out (And.intro f0 e0))
      have hnD : nD ≤ 20000 := by rw [← hdl]; exact Hfr.out.len
      have f0 := cell_below HE.out f0
      have e0 := cell_below HE.out e0
      obtain ⟨A', n', c', rfl, hn', hc', hR'⟩ := OB.rd HO.out
      have hln : n' ≤ (2031 * 20000 + 10) * 4 := by rw [hn']; exact Hlen.out
      generalize hb0 : setB ((viewP L).take k) = b0 at *
      have Hb0 := hid hb0
      have hcc := refNPut_at hn' hc' hR' (by omega) (nD : Int) (by unfold I64; omega)
      have Hbl := hid (show b0.length = n' from hn'.symm)
      clear hE0 hdl hR' hn' hb0 HO
      go_wp2_with fail
      refine hcc.mono ?_
      clear hcc f0 e0 c0
      rintro e w2 ⟨v, rfl, hO, hE⟩
      have HO := hid (show OB w2 w.heap.size v (b0 ++ encB (nD : Int) ++ rowB (D.take 0)) from by
        have := OB.base hO HE.out.size
        simpa [rowB] using this)
      have HE2 := hid (HE.out.trans' hE)
      clear hO hE
      go_wp2_with fail
      go_loopw [3, 5] (fun u i wr => ∃ j : Nat, j ≤ nD ∧ i = .int .i64 (j : Int) ∧ Hid (OB wr w.heap.size u (b0 ++ encB (nD : Int) ++ rowB (D.take j))) ∧ Hid (Ext w wr)) (fun _ i _ => nD - (intOf i).toNat)
      case atStart => exact ⟨0, by omega, rfl, HO, HE2⟩
      case round =>
        clear HE HE2 HO
        obtain ⟨j, hj, rfl, HO, HE⟩ := hrel
        have c0 := cell_below HE.out Hc.out.1
        have f0 := cell_below HE.out Hc.out.2.1
        have e0 := cell_below HE.out Hc.out.2.2
        by_cases hjn : j < nD
        · have hjx : j < D.length := by have := HnD.out; omega
          have hjn' : (j : Int) < (nD : Int) := by omega
          have hj00 : ¬ ((j : Int) < 0) := by omega
          have hj0 : (0 : Int) ≤ (j : Int) := by omega
          obtain ⟨b', o', rfl, -, g0, g1, -⟩ := field_at HEn.out j hjx
          have hkey := Hfr.out.key _ (List.getElem_mem hjx)
          have hnum := Hfr.out.num _ (List.getElem_mem hjx)
          have Hnx := hid (rowB_next hjx)
          have Hrl := hid (Hfr.out.row j)
          generalize D[j] = y at *
          obtain ⟨key, num⟩ := y
          dsimp only at g0 g1 hkey hnum Hnx
          have Hc := hid (And.intro Hc.out.1 (And.intro Hc.out.2.1 (And.intro Hc.out.2.2 (And.intro g0 g1))))
          have Hkey := hid hkey; have Hnum := hid hnum
          obtain ⟨A2, n2, c2, rfl, hn2, hc2, hR2⟩ := OB.rd HO.out
          have hel := encB_len (x := (nD : Int)) (by omega)
          have Hl2 := hid (show n2 ≤ 400000000 by rw [hn2, List.length_append, List.length_append, Hbl.out]; have := Hrl.out; omega)
          generalize hpre : b0 ++ encB (nD : Int) ++ rowB (D.take j) = pre at *
          have Hpre := hid hpre
          have HN2 := hid hn2; have HR2 := hid hR2
          clear g0 g1 hkey hnum hn2 hR2 hel hpre HO
          go_wp2_with fail
          clear c0 f0 e0
          apply wp_drawn_last 31 [isV _, isV _, isV _, isV _, isV _, isV _, isV _, isV _, isV _, isV _, isV _, isV _, isV _, isV _, isV _, obX w.heap.size (pre ++ encT key), isV _, isV _, isV _, isV _, isV _, isV _, isV _, isV _, isV _, isV _, isV _, isV _, isV _, isV _, obX w.heap.size (pre ++ (encT key ++ encB num))] (by decide) (by kernel_rfl)
          · kernel_rfl
          · kernel_rfl
          · refine ⟨?rps0, ?rps1, ?rps2, ?rps3, ?rps4, ?rps5, ?rps6, ?rps7, ?rps8, ?rps9, ?rps10, ?rps11, ?rps12, ?rps13, ?rps14, ?rps15, ?rps16, ?rps17, ?rps18, ?rps19, ?rps20, ?rps21, ?rps22, ?rps23, ?rps24, ?rps25, ?rps26, ?rps27, ?rps28, ?rps29, ?rps30, trivial⟩
            case rps0 | rps1 | rps2 | rps3 =>
              intro v W hE hd; simp only [Region.wanted, ↓reduceIte]; (try simp [deps, waitsOn, Region.binds, knowing, isV, ownsV, anyV] at hd); simp only [putAll, List.take_succ_cons, List.take_zero, List.drop_succ_cons, List.drop_zero, Act.put, List.setIfInBounds_toArray, List.set_cons_zero, List.set_cons_succ, Nat.zero_add, Nat.reduceAdd]; go_simp; exact ⟨Below.refl _ _, rfl⟩
            case rps4 =>
              intro v W hE hd; simp only [Region.wanted, ↓reduceIte]; (try simp [deps, waitsOn, Region.binds, knowing, isV, ownsV, anyV] at hd); simp only [putAll, List.take_succ_cons, List.take_zero, List.drop_succ_cons, List.drop_zero, Act.put, List.setIfInBounds_toArray, List.set_cons_zero, List.set_cons_succ, Nat.zero_add, Nat.reduceAdd]
              have g := cell_below ((HE.out).trans' hE) Hc.out.1
              go_simp
              exact ⟨Below.refl _ _, rfl⟩
            case rps5 | rps6 =>
              intro v W hE hd; simp only [Region.wanted, ↓reduceIte]; (try simp [deps, waitsOn, Region.binds, knowing, isV, ownsV, anyV] at hd); simp only [putAll, List.take_succ_cons, List.take_zero, List.drop_succ_cons, List.drop_zero, Act.put, List.setIfInBounds_toArray, List.set_cons_zero, List.set_cons_succ, Nat.zero_add, Nat.reduceAdd]; go_simp; exact ⟨Below.refl _ _, rfl⟩
            case rps7 =>
              intro v W hE hd; simp only [Region.wanted, ↓reduceIte]; (try simp [deps, waitsOn, Region.binds, knowing, isV, ownsV, anyV] at hd); simp only [putAll, List.take_succ_cons, List.take_zero, List.drop_succ_cons, List.drop_zero, Act.put, List.setIfInBounds_toArray, List.set_cons_zero, List.set_cons_succ, Nat.zero_add, Nat.reduceAdd]
              have g := cell_below ((HE.out).trans' hE) Hc.out.2.1
              go_simp
              exact ⟨Below.refl _ _, rfl⟩
            case rps8 | rps9 =>
              intro v W hE hd; simp only [Region.wanted, ↓reduceIte]; (try simp [deps, waitsOn, Region.binds, knowing, isV, ownsV, anyV] at hd); simp only [putAll, List.take_succ_cons, List.take_zero, List.drop_succ_cons, List.drop_zero, Act.put, List.setIfInBounds_toArray, List.set_cons_zero, List.set_cons_succ, Nat.zero_add, Nat.reduceAdd]; go_simp; exact ⟨Below.refl _ _, rfl⟩
            case rps10 =>
              intro v W hE hd; simp only [Region.wanted, ↓reduceIte]; (try simp [deps, waitsOn, Region.binds, knowing, isV, ownsV, anyV] at hd); simp only [putAll, List.take_succ_cons, List.take_zero, List.drop_succ_cons, List.drop_zero, Act.put, List.setIfInBounds_toArray, List.set_cons_zero, List.set_cons_succ, Nat.zero_add, Nat.reduceAdd]
              have g := cell_below ((HE.out).trans' hE) Hc.out.2.2.1
              go_simp
              exact ⟨Below.refl _ _, rfl⟩
            case rps11 | rps12 | rps13 =>
              intro v W hE hd; simp only [Region.wanted, ↓reduceIte]; (try simp [deps, waitsOn, Region.binds, knowing, isV, ownsV, anyV] at hd); simp only [putAll, List.take_succ_cons, List.take_zero, List.drop_succ_cons, List.drop_zero, Act.put, List.setIfInBounds_toArray, List.set_cons_zero, List.set_cons_succ, Nat.zero_add, Nat.reduceAdd]; go_simp; exact ⟨Below.refl _ _, rfl⟩
            case rps14 =>
              intro v W hE hd; simp only [Region.wanted, ↓reduceIte]; (try simp [deps, waitsOn, Region.binds, knowing, isV, ownsV, anyV] at hd); simp only [putAll, List.take_succ_cons, List.take_zero, List.drop_succ_cons, List.drop_zero, Act.put, List.setIfInBounds_toArray, List.set_cons_zero, List.set_cons_succ, Nat.zero_add, Nat.reduceAdd]
              have g := cell_below ((HE.out).trans' hE) Hc.out.2.2.2.1
              go_simp
              exact ⟨Below.refl _ _, rfl⟩
            case rps15 =>
              intro v W hE hd; simp only [Region.wanted, ↓reduceIte]; (try simp [deps, waitsOn, Region.binds, knowing, isV, ownsV, anyV] at hd); simp only [putAll, List.take_succ_cons, List.take_zero, List.drop_succ_cons, List.drop_zero, Act.put, List.setIfInBounds_toArray, List.set_cons_zero, List.set_cons_succ, Nat.zero_add, Nat.reduceAdd]
              have hcc := refNPutText_at HN2.out hc2 (RB.below HR2.out hE) (by have := Hl2.out; omega) key (by have := Hkey.out; omega)
              go_simp
              refine hcc.mono ?_
              clear hcc
              rintro e w' ⟨v', rfl, hO, hE2⟩
              have HOo := hid hO; have HEe := hid hE2
              clear hO hE2
              go_simp
              exact ⟨HEe.out, OB.base HOo.out (by have := hE.size; have := HE.out.size; omega)⟩
            case rps16 | rps17 | rps18 =>
              intro v W hE hd; simp only [Region.wanted, ↓reduceIte]; (try simp [deps, waitsOn, Region.binds, knowing, isV, ownsV, anyV] at hd); simp only [putAll, List.take_succ_cons, List.take_zero, List.drop_succ_cons, List.drop_zero, Act.put, List.setIfInBounds_toArray, List.set_cons_zero, List.set_cons_succ, Nat.zero_add, Nat.reduceAdd]; go_simp; exact ⟨Below.refl _ _, rfl⟩
            case rps19 =>
              intro v W hE hd; simp only [Region.wanted, ↓reduceIte]; (try simp [deps, waitsOn, Region.binds, knowing, isV, ownsV, anyV] at hd); simp only [putAll, List.take_succ_cons, List.take_zero, List.drop_succ_cons, List.drop_zero, Act.put, List.setIfInBounds_toArray, List.set_cons_zero, List.set_cons_succ, Nat.zero_add, Nat.reduceAdd]
              have g := cell_below ((HE.out).trans' hE) Hc.out.1
              go_simp
              exact ⟨Below.refl _ _, rfl⟩
            case rps20 | rps21 =>
              intro v W hE hd; simp only [Region.wanted, ↓reduceIte]; (try simp [deps, waitsOn, Region.binds, knowing, isV, ownsV, anyV] at hd); simp only [putAll, List.take_succ_cons, List.take_zero, List.drop_succ_cons, List.drop_zero, Act.put, List.setIfInBounds_toArray, List.set_cons_zero, List.set_cons_succ, Nat.zero_add, Nat.reduceAdd]; go_simp; exact ⟨Below.refl _ _, rfl⟩
            case rps22 =>
              intro v W hE hd; simp only [Region.wanted, ↓reduceIte]; (try simp [deps, waitsOn, Region.binds, knowing, isV, ownsV, anyV] at hd); simp only [putAll, List.take_succ_cons, List.take_zero, List.drop_succ_cons, List.drop_zero, Act.put, List.setIfInBounds_toArray, List.set_cons_zero, List.set_cons_succ, Nat.zero_add, Nat.reduceAdd]
              have g := cell_below ((HE.out).trans' hE) Hc.out.2.1
              go_simp
              exact ⟨Below.refl _ _, rfl⟩
            case rps23 | rps24 =>
              intro v W hE hd; simp only [Region.wanted, ↓reduceIte]; (try simp [deps, waitsOn, Region.binds, knowing, isV, ownsV, anyV] at hd); simp only [putAll, List.take_succ_cons, List.take_zero, List.drop_succ_cons, List.drop_zero, Act.put, List.setIfInBounds_toArray, List.set_cons_zero, List.set_cons_succ, Nat.zero_add, Nat.reduceAdd]; go_simp; exact ⟨Below.refl _ _, rfl⟩
            case rps25 =>
              intro v W hE hd; simp only [Region.wanted, ↓reduceIte]; (try simp [deps, waitsOn, Region.binds, knowing, isV, ownsV, anyV] at hd); simp only [putAll, List.take_succ_cons, List.take_zero, List.drop_succ_cons, List.drop_zero, Act.put, List.setIfInBounds_toArray, List.set_cons_zero, List.set_cons_succ, Nat.zero_add, Nat.reduceAdd]
              have g := cell_below ((HE.out).trans' hE) Hc.out.2.2.1
              go_simp
              exact ⟨Below.refl _ _, rfl⟩
            case rps26 | rps27 | rps28 =>
              intro v W hE hd; simp only [Region.wanted, ↓reduceIte]; (try simp [deps, waitsOn, Region.binds, knowing, isV, ownsV, anyV] at hd); simp only [putAll, List.take_succ_cons, List.take_zero, List.drop_succ_cons, List.drop_zero, Act.put, List.setIfInBounds_toArray, List.set_cons_zero, List.set_cons_succ, Nat.zero_add, Nat.reduceAdd]; go_simp; exact ⟨Below.refl _ _, rfl⟩
            case rps29 =>
              intro v W hE hd; simp only [Region.wanted, ↓reduceIte]; (try simp [deps, waitsOn, Region.binds, knowing, isV, ownsV, anyV] at hd); simp only [putAll, List.take_succ_cons, List.take_zero, List.drop_succ_cons, List.drop_zero, Act.put, List.setIfInBounds_toArray, List.set_cons_zero, List.set_cons_succ, Nat.zero_add, Nat.reduceAdd]
              have g := cell_below ((HE.out).trans' hE) Hc.out.2.2.2.2
              go_simp
              exact ⟨Below.refl _ _, rfl⟩
            case rps30 =>
              intro v W hE hd; simp only [Region.wanted, ↓reduceIte]; (try simp [deps, waitsOn, Region.binds, knowing, isV, ownsV, anyV] at hd); simp only [putAll, List.take_succ_cons, List.take_zero, List.drop_succ_cons, List.drop_zero, Act.put, List.setIfInBounds_toArray, List.set_cons_zero, List.set_cons_succ, Nat.zero_add, Nat.reduceAdd]
              obtain ⟨h7, h13⟩ := hd
              obtain ⟨A3, n3, c3, e3, hn3, hc3, hr3⟩ := OB.rd (show OB W w.heap.size (v 15) (pre ++ encT key) from h7)
              have het := encT_len (s := key) (by have := Hkey.out; omega)
              have hl3 : n3 ≤ 900000000 := by rw [hn3, List.length_append, ← HN2.out]; have := Hl2.out; have := Hkey.out; omega
              have h13' : v 29 = .int .i64 num := by first | exact h13 | exact h13.1
              rw [e3, h13']
              have hcc := refNPut_at hn3 hc3 hr3 (by omega) num Hnum.out
              rw [List.append_assoc] at hcc
              clear h7 hn3 hr3 hl3 het h13
              go_simp
              refine hcc.mono ?_
              clear hcc
              rintro e w' ⟨v', rfl, hO, hE2⟩
              have HOo := hid hO; have HEe := hid hE2
              clear hO hE2
              go_simp
              exact ⟨HEe.out, OB.base HOo.out (by have := hE.size; have := HE.out.size; omega)⟩
          · rintro v W9 hE ⟨-, -, -, -, -, -, -, -, -, -, -, -, -, -, -, -, -, -, -, -, -, -, -, -, -, -, -, -, -, -, e30, -⟩
            have e30 := (show _ from e30)
            simp only [putAll, List.take_succ_cons, List.take_zero, List.drop_succ_cons, List.drop_zero, Act.put, List.setIfInBounds_toArray, List.set_cons_zero, List.set_cons_succ, Nat.zero_add, Nat.reduceAdd]
            have HOf := hid (show OB W9 w.heap.size (v 30) (b0 ++ encB (nD : Int) ++ rowB (D.take (j + 1))) from by rw [Hnx.out, ← List.append_assoc, Hpre.out]; exact e30)
            have HEf := hid (HE.out.trans' hE)
            clear hE e30
            go_wp2_with fail
            go_roundw
            case rel => exact ⟨j + 1, by omega, by go_num, HOf, HEf⟩
            case measure => simp [intOf]; omega
        · obtain rfl : j = nD := by omega
          have hjn' : ¬ ((j : Int) < (j : Int)) := by omega
          have HOf := hid (show OB wr w.heap.size u3 (setB ((viewP L).take (k + 1))) from by
            have := HO.out
            rw [List.take_of_length_le (by have := HnD.out; omega), List.append_assoc] at this
            rw [Hvk.out]
            unfold stB
            rw [HnD.out]
            exact this)
          go_wp2_with fail
          go_roundw
          case rel => exact ⟨k + 1, by omega, by go_num, HOf, HE⟩
          case measure => simp [intOf]; omega
    · obtain rfl : k = n := by omega
      have hlt' : ¬ ((k : Int) < (k : Int)) := by omega
      have HF := hid (show OB wr w.heap.size u3 (setB (viewP L)) from by
        have := HO.out
        rw [List.take_of_length_le (by rw [viewP_len]; have := Hn.out; omega)] at this
        exact this)
      go_wp2
      go_ret
      exact ⟨HE.out, _, rfl, HF.out⟩
end Go.Proofs.YtakebdeldndaaaaGreatDoor
/- registrarref01.Reader: length, fail, Num. -/
namespace Go.Proofs.YtakebdeldndaaaaGreatDoor
open Go Go.RowKit
set_option linter.unusedSimpArgs false
set_option linter.unusedVariables false
structure RrIs (w : World) (S : Nat → Prop) (r : Nat) (bs : List UInt8) (bad : Bool) : Prop where
  row : ∃ A c, w.heap[r]? = some (.cells #[.slice A bs.length c, .bool bad] 144) ∧ SlR Rep.u8 w (Out S w) A bs.length c bs
  own : S r
section
variable {w w' : World} {S S' : Nat → Prop} {r : Nat} {bs : List UInt8} {bad : Bool}
theorem RrIs.lt (h : RrIs w S r bs bad) : r < w.heap.size := by
  obtain ⟨A, c, h1, -⟩ := h.row
  exact (Array.getElem?_eq_some_iff.1 h1).1
theorem RrIs.more (h : RrIs w S r bs bad) (hE : Ext w w') (hS : ∀ k, S' k → S k ∨ w.heap.size ≤ k) (hr : S' r) : RrIs w' S' r bs bad := by
  obtain ⟨A, c, h1, h2⟩ := h.row
  exact ⟨⟨A, c, (hE.block r h.lt).trans h1, slR_more h2 hE hS⟩, hr⟩
theorem RrIs.ext (h : RrIs w S r bs bad) (hE : Ext w w') : RrIs w' S r bs bad := h.more hE (fun _ hk => .inl hk) h.own
theorem RrIs.kept {a b : Nat} (h : RrIs w S r bs bad) (hk : Kept2 a b w w') (ha : S a) (hb : S b) (h1 : r ≠ a) (h2 : r ≠ b) : RrIs w' S r bs bad := by
  obtain ⟨A, c, g1, g2⟩ := h.row
  exact ⟨⟨A, c, (hk.block r h.lt h1 h2).trans g1, slR_kept g2 hk ha hb⟩, h.own⟩
end
def valB : List UInt8 → Nat
  | [] => 0
  | c :: l => valB l * 128 + c.toNat % 128
theorem valB_drop : ∀ (l : List UInt8) (k : Nat), valB (l.drop k) ≤ valB l
  | l, 0 => by simp
  | [], k + 1 => by simp
  | c :: l, k + 1 => by
    have := valB_drop l k
    rw [List.drop_succ_cons]
    show _ ≤ valB l * 128 + c.toNat % 128
    omega
theorem decV_val : ∀ (l : List UInt8) (i u : Nat) (r : List UInt8), decV i l = some (u, r) → ∃ pre, l = pre ++ r ∧ u = valB pre ∧ 1 ≤ pre.length
  | [], i, u, r, h => by simp [decV] at h
  | c :: l, i, u, r, h => by
    unfold decV at h
    split at h
    · cases h
    split at h
    · obtain ⟨x, hx, e⟩ := Option.map_eq_some_iff.1 h
      obtain ⟨pre, e1, e2, e3⟩ := decV_val l (i + 1) x.1 x.2 hx
      simp only [Prod.mk.injEq] at e
      obtain ⟨rfl, rfl⟩ := e
      refine ⟨c :: pre, by rw [e1]; rfl, ?_, by simp⟩
      show _ = valB pre * 128 + c.toNat % 128
      rw [← e2]; omega
    split at h
    · cases h
    · injection h with h
      simp only [Prod.mk.injEq] at h
      obtain ⟨rfl, rfl⟩ := h
      refine ⟨[c], rfl, ?_, by simp⟩
      show _ = 0 * 128 + c.toNat % 128
      omega
def numLen (bs : List UInt8) : Nat := match decV 0 bs with
  | none => 0
  | some x => bs.length - x.2.length
theorem numLen_none {bs : List UInt8} (h : decV 0 bs = none) : numLen bs = 0 := by unfold numLen; rw [h]
theorem numLen_drop {bs : List UInt8} {u k : Nat} (hk : k ≤ bs.length) (h : decV 0 bs = some (u, bs.drop k)) : numLen bs = k := by
  unfold numLen; rw [h]; dsimp only; rw [List.length_drop]; omega
theorem numLen_some {bs : List UInt8} (h : numLen bs ≠ 0) : 1 ≤ numLen bs ∧ numLen bs ≤ bs.length ∧ valB (bs.take (numLen bs)) < 18446744073709551616 ∧ numS bs = (unzig (valB (bs.take (numLen bs))), bs.drop (numLen bs), false) := by
  cases hd : decV 0 bs with
  | none => exact absurd (numLen_none hd) h
  | some x =>
    obtain ⟨u, r⟩ := x
    obtain ⟨pre, e1, e2, e3⟩ := decV_val bs 0 u r hd
    have hlt := (decV_inv bs 0 u r hd).2.2 (by omega)
    have hl : numLen bs = pre.length := by
      unfold numLen; rw [hd]; dsimp only; rw [e1, List.length_append]; omega
    have ht : bs.take pre.length = pre := by rw [e1]; simp
    have hdp : bs.drop pre.length = r := by rw [e1]; simp
    have hll : pre.length ≤ bs.length := by rw [e1, List.length_append]; omega
    rw [hl, ht, hdp, ← e2]
    exact ⟨e3, hll, by simpa using hlt, by unfold numS numO; rw [hd]; rfl⟩
theorem numLen_zero {bs : List UInt8} (h : numLen bs = 0) : numS bs = (0, [], true) := by
  cases hd : decV 0 bs with
  | none => unfold numS numO; rw [hd]; rfl
  | some x =>
    obtain ⟨u, r⟩ := x
    obtain ⟨pre, e1, e2, e3⟩ := decV_val bs 0 u r hd
    unfold numLen at h
    rw [hd] at h
    dsimp only at h
    rw [e1, List.length_append] at h
    omega
theorem rrFail_at {w : World} {S : Nat → Prop} {r : Nat} {bs : List UInt8} {bad : Bool} (h : RrIs w S r bs bad) :
    Calls Tryz.prog 133 #[.pointer (some ⟨r, 0, none⟩)] w fun e w' => (∃ v, e = .returned v) ∧ RrIs w' S r [] true ∧ Kept2 r r w w' := by
  obtain ⟨A, c, h1, h2⟩ := h.row
  have g0 : w.frozen? ⟨r, 0, none⟩ = false := by simp [World.frozen?, h1]
  have c0 : w.cell? ⟨r, 0, none⟩ = some (.slice A bs.length c) := by rw [cell_of_row _ _ _ _ _ _ h1]; rfl
  have g2 : w.frozen? ⟨r, 1, none⟩ = false := by simp [World.frozen?, h1]
  have c2 : w.cell? ⟨r, 1, none⟩ = some (.bool bad) := by rw [cell_of_row _ _ _ _ _ _ h1]; rfl
  have h3 := heap_setCell_row (o := 1) h1 (.bool true)
  have g1 : (w.setCell ⟨r, 1, none⟩ (.bool true)).frozen? ⟨r, 0, none⟩ = false := by simp [World.frozen?, h3]
  have c1 : (w.setCell ⟨r, 1, none⟩ (.bool true)).cell? ⟨r, 0, none⟩ = some (.slice A bs.length c) := by rw [cell_of_row _ _ _ _ _ _ h3]; rfl
  have h4 := heap_setCell_row (o := 0) h3 (.slice none 0 0)
  have HK := hid (show Kept2 r r w ((w.setCell ⟨r, 1, none⟩ (.bool true)).setCell ⟨r, 0, none⟩ (.slice none 0 0)) from
    (⟨rfl, rfl, rfl, by simp, fun k hk e _ => heap_setCell_other w ⟨r, 1, none⟩ k _ (fun h => e h)⟩ : Kept2 r r w (w.setCell ⟨r, 1, none⟩ (.bool true))).trans
      ⟨rfl, rfl, rfl, by simp, fun k hk e _ => heap_setCell_other _ ⟨r, 0, none⟩ k _ (fun h => e h)⟩)
  have HR := hid (show RrIs ((w.setCell ⟨r, 1, none⟩ (.bool true)).setCell ⟨r, 0, none⟩ (.slice none 0 0)) S r [] true from ⟨⟨none, 0, h4, slR_nil _ _⟩, h.own⟩)
  clear h h2 h3 h4 h1
  go_enter Tryz.func133, Tryz.ntmps133
  go_wp2
  go_end0
  exact ⟨⟨_, rfl⟩, HR.out, HK.out⟩
set_option maxRecDepth 100000 in
set_option maxHeartbeats 4000000 in
theorem rrLength_at {w : World} {K : Nat → Prop} {A : Option Addr} {n c : Nat} {bs : List UInt8} (h : SlR Rep.u8 w K A n c bs) :
    Calls Tryz.prog 132 #[.slice A n c] w fun e w' => e = .returned (.int .i64 ((numLen bs : Nat) : Int)) ∧ w' = w := by
  have Hn := hid h.1
  have hnc := h.2.1
  have hcm := h.2.2.1
  have H := hid h
  clear h
  go_enter Tryz.func132, Tryz.ntmps132
  go_wp2_with fail
  go_loopw [3] (fun i wr => ∃ (k acc : Nat), k ≤ 10 ∧ k ≤ n ∧ i = .int .i64 (k : Int) ∧ Hid (decV 0 bs = decU k acc (bs.drop k)) ∧ Hid (wr = w)) (fun i _ => n - (intOf i).toNat)
  case atStart => exact ⟨0, 0, by omega, by omega, rfl, hid (by rw [decU_zero]; rfl), hid rfl⟩
  case round =>
    obtain ⟨k, acc, hk10, hkn, rfl, HD, hw⟩ := hrel
    obtain rfl := hw.out
    clear hw
    by_cases hlt : k < n
    rotate_left
    · have hlt' : ¬ ((k : Int) < (n : Int)) := by omega
      have hz := hid (numLen_none (by rw [HD.out]; exact decU_end (.inl (by rw [List.drop_eq_nil_of_le (by have := Hn.out; omega)]))))
      go_wp2
      go_ret
      exact ⟨by rw [hz.out]; rfl, rfl⟩
    have hltn : (k : Int) < (n : Int) := by omega
    by_cases h10 : k = 10
    · have hlt' : ¬ ((k : Int) < 10) := by omega
      have hz := hid (numLen_none (by rw [HD.out]; exact decU_end (.inr h10)))
      clear h10
      go_wp2
      go_ret
      exact ⟨by rw [hz.out]; rfl, rfl⟩
    have hlt10 : (k : Int) < 10 := by omega
    have hkx : k < bs.length := by have := Hn.out; omega
    have hk00 : ¬ ((k : Int) < 0) := by omega
    have hk0 : (0 : Int) ≤ (k : Int) := by omega
    obtain ⟨b, o, d, rfl, hbk, hd, hg⟩ := H.out.get (by decide) k hkx
    have e1 : d = [bv bs[k]] := hd
    subst e1
    have g0 := hg 0 _ rfl
    rw [show Rep.u8.size = 1 from rfl, Nat.mul_one, Nat.add_zero] at g0
    have Hdr := hid (show bs.drop k = bs[k] :: bs.drop (k + 1) from List.drop_eq_getElem_cons hkx)
    generalize bs[k] = ch at *
    have hch : ch.toNat < 256 := UInt8.toNat_lt ch
    unfold bv at g0
    by_cases h128 : 128 ≤ ch.toNat
    · have hi128 : (128 : Int) ≤ (ch.toNat : Int) := by omega
      have HD2 := hid (show decV 0 bs = decU (k + 1) (acc + 128 ^ k * (ch.toNat % 128)) (bs.drop (k + 1)) by rw [HD.out, Hdr.out, decU_next (by omega) h128])
      go_wp2_with fail
      go_roundw
      case rel => exact ⟨k + 1, _, by omega, by omega, by go_num, HD2, hid trivial⟩
      case measure => simp [intOf]; omega
    · have hi128 : ¬ ((128 : Int) ≤ (ch.toNat : Int)) := by omega
      have HL := hid (show decV 0 bs = if (ch.toNat = 0 ∧ 0 < k) ∨ (k = 9 ∧ 1 < ch.toNat) then none else some (acc + 128 ^ k * ch.toNat, bs.drop (k + 1)) by rw [HD.out, Hdr.out, decU_last (by omega) h128])
      have Hkl := hid (show k + 1 ≤ bs.length by omega)
      clear Hdr
      generalize ch.toNat = cn at *
      go_upto_region 5 with (fail)
      go_cut [38] (fun z wx => z = .bool (decide ((cn = 0 ∧ 0 < k) ∨ (k = 9 ∧ 1 < cn))) ∧ Hid (wx = wr))
      case first =>
        clear HL
        by_cases h0 : cn = 0
        · by_cases hkp : 0 < k
          · have hkp' : (0 : Int) < (k : Int) := by omega
            have h0b : ((cn : Int) == 0) = true := by rw [beq_iff_eq]; omega
            have hd := hid (show decide ((cn = 0 ∧ 0 < k) ∨ (k = 9 ∧ 1 < cn)) = true from decide_eq_true (by omega))
            clear h0 hkp
            go_wp2_with fail
            go_meet
            case rel => exact ⟨by rw [hd.out], hid rfl⟩
          · obtain rfl : k = 0 := by omega
            subst h0
            have hd := hid (show decide (((0 : Nat) = 0 ∧ 0 < 0) ∨ ((0 : Nat) = 9 ∧ 1 < 0)) = false from by decide)
            clear hkp
            go_wp2_with fail
            go_meet
            case rel => exact ⟨by rw [hd.out], hid rfl⟩
        · have h0b : ((cn : Int) == 0) = false := beq_eq_false_iff_ne.2 (by omega)
          by_cases hkp : 0 < k
          · have hkp' : (0 : Int) < (k : Int) := by omega
            by_cases h9 : k = 9
            · have h9b : ((k : Int) == 9) = true := by rw [beq_iff_eq]; omega
              by_cases h1 : 1 < cn
              · have h1' : (1 : Int) < (cn : Int) := by omega
                have hd := hid (show decide ((cn = 0 ∧ 0 < k) ∨ (k = 9 ∧ 1 < cn)) = true from decide_eq_true (by omega))
                clear h0 h9 h1 hkp
                go_wp2_with fail
                go_meet
                case rel => exact ⟨by rw [hd.out], hid rfl⟩
              · have h1' : ¬ ((1 : Int) < (cn : Int)) := by omega
                have hd := hid (show decide ((cn = 0 ∧ 0 < k) ∨ (k = 9 ∧ 1 < cn)) = false from decide_eq_false (by omega))
                clear h0 h9 h1 hkp
                go_wp2_with fail
                go_meet
                case rel => exact ⟨by rw [hd.out], hid rfl⟩
            · have h9b : ((k : Int) == 9) = false := beq_eq_false_iff_ne.2 (by omega)
              have hd := hid (show decide ((cn = 0 ∧ 0 < k) ∨ (k = 9 ∧ 1 < cn)) = false from decide_eq_false (by omega))
              clear h0 h9 hkp
              go_wp2_with fail
              go_meet
              case rel => exact ⟨by rw [hd.out], hid rfl⟩
          · obtain rfl : k = 0 := by omega
            have hd := hid (show decide ((cn = 0 ∧ 0 < 0) ∨ ((0 : Nat) = 9 ∧ 1 < cn)) = false from decide_eq_false (by omega))
            clear h0 hkp
            go_wp2_with fail
            go_meet
            case rel => exact ⟨by rw [hd.out], hid rfl⟩
      case rest =>
      obtain ⟨rfl, hw⟩ := hcut
      obtain rfl := hw.out.symm
      clear hw
      by_cases hbad : (cn = 0 ∧ 0 < k) ∨ (k = 9 ∧ 1 < cn)
      · have hz := hid (numLen_none (by rw [HL.out, if_pos hbad]))
        rw [decide_eq_true hbad]
        clear hbad
        go_wp2
        go_ret
        exact ⟨by rw [hz.out]; rfl, rfl⟩
      · have hz := hid (numLen_drop Hkl.out (by rw [HL.out, if_neg hbad]))
        rw [decide_eq_false hbad]
        clear hbad
        go_wp2
        go_ret
        exact ⟨by rw [hz.out]; rfl, rfl⟩
end Go.Proofs.YtakebdeldndaaaaGreatDoor
/- registrarref01.Reader: Num, Text. -/
namespace Go.Proofs.YtakebdeldndaaaaGreatDoor
open Go Go.RowKit
set_option linter.unusedSimpArgs false
set_option linter.unusedVariables false
structure RNumIs (w : World) (S : Nat → Prop) (r : Nat) (bs : List UInt8) (bad : Bool) (e : Ending) (w' : World) : Prop where
  ans : e = .returned (.int .i64 (numS bs).1)
  rd : RrIs w' S r (numS bs).2.1 (bad || (numS bs).2.2)
  kept : Kept2 r r w w'
theorem valB_step {l : List UInt8} {j : Nat} (h : j < l.length) : valB (l.drop j) = valB (l.drop (j + 1)) * 128 + l[j].toNat % 128 := by
  rw [List.drop_eq_getElem_cons h]; rfl
set_option maxRecDepth 100000 in
set_option maxHeartbeats 4000000 in
theorem rrNum_at {w : World} {S : Nat → Prop} {r : Nat} {bs : List UInt8} {bad : Bool} (h : RrIs w S r bs bad) :
    Calls Tryz.prog 92 #[.pointer (some ⟨r, 0, none⟩)] w fun e w' => RNumIs w S r bs bad e w' := by
  obtain ⟨A, c, h1, h2⟩ := h.row
  have c0 : w.cell? ⟨r, 0, none⟩ = some (.slice A bs.length c) := by rw [cell_of_row _ _ _ _ _ _ h1]; rfl
  have hnc := h2.2.1
  have hcm := h2.2.2.1
  have H := hid h; have H2 := hid h2
  have Hrow := hid h1
  have hcc := rrLength_at h2
  clear h h1 h2
  generalize hn : bs.length = n at *
  have Hn := hid hn
  clear hn
  go_enter Tryz.func92, Tryz.ntmps92
  go_wp2_with fail
  refine hcc.mono ?_
  clear hcc
  rintro e w1 ⟨rfl, hw⟩
  obtain rfl : w = w1 := hw.symm
  clear hw
  obtain ⟨N, hN⟩ : ∃ N, N = numLen bs := ⟨_, rfl⟩
  have HN := hid hN
  rw [← hN]
  clear hN
  by_cases hz : N = 0
  · subst hz
    have hns := numLen_zero HN.out.symm
    have Hpost := hid (show ∀ w', RrIs w' S r [] true → Kept2 r r w w' → RNumIs w S r bs bad (.returned (.int .i64 0)) w' from fun w' h1 h2 => ⟨by rw [hns], by rw [hns]; cases bad <;> exact h1, h2⟩)
    clear hns
    have hcc := rrFail_at H.out
    go_wp2_with fail
    refine hcc.mono ?_
    clear hcc
    rintro e w1 ⟨⟨v, rfl⟩, hR, hK⟩
    have HR := hid hR; have HK := hid hK
    clear hR hK
    go_wp2
    go_ret
    exact Hpost.out _ HR.out HK.out
  have hb : ((N : Int) == 0) = false := beq_eq_false_iff_ne.2 (by omega)
  obtain ⟨hN1, hNl, hU, hns⟩ := numLen_some (bs := bs) (by rw [← HN.out]; exact hz)
  rw [← HN.out] at hN1 hNl hU hns
  have Hns := hid hns
  have HU := hid hU
  have hNn : N ≤ n := by rw [← Hn.out]; exact hNl
  have HNl := hid hNl
  have hlt9 : (bs.take N).length = N := by rw [List.length_take]; omega
  have Hlt9 := hid hlt9
  have h63 : (n : Int) ≤ 9223372036854775807 := by omega
  clear hz hns hU hNl hlt9
  go_wp2_with fail
  clear hb
  go_loopw [4, 5] (fun u i wr => ∃ m : Nat, m ≤ N ∧ i = .int .i64 ((m : Int) - 1) ∧ u = .int .u64 ((valB ((bs.take N).drop m) : Nat) : Int) ∧ Hid (wr = w)) (fun _ i _ => (intOf i + 1).toNat)
  case atStart => exact ⟨N, Nat.le_refl _, rfl, by rw [List.drop_eq_nil_of_le (by rw [Hlt9.out]; exact Nat.le_refl _)]; rfl, hid rfl⟩
  case round =>
    obtain ⟨m, hm, rfl, rfl, hw⟩ := hrel
    obtain rfl := hw.out
    clear hw
    cases m with
    | succ j =>
      have e1 : (((j + 1 : Nat) : Int) - 1) = (j : Int) := by omega
      rw [e1]
      have hjx : j < bs.length := by rw [Hn.out]; omega
      have hj0 : (0 : Int) ≤ (j : Int) := by omega
      have hj00 : ¬ ((j : Int) < 0) := by omega
      have hjn : (j : Int) < (n : Int) := by omega
      have hjt : j < (bs.take N).length := by rw [Hlt9.out]; omega
      have hst := valB_step hjt
      have hle := valB_drop (bs.take N) j
      have hg : (bs.take N)[j] = bs[j] := List.getElem_take
      rw [hg] at hst
      obtain ⟨b, o, d, rfl, hbk, hd, hgt⟩ := H2.out.get (by decide) j hjx
      have e1 : d = [bv bs[j]] := hd
      subst e1
      have g0 := hgt 0 _ rfl
      rw [show Rep.u8.size = 1 from rfl, Nat.mul_one, Nat.add_zero] at g0
      unfold bv at g0
      have hUU := HU.out
      generalize bs[j] = ch at *
      have hch : ch.toNat < 256 := UInt8.toNat_lt ch
      generalize valB ((bs.take N).drop (j + 1)) = V at *
      have Hv := hid hst
      have hub : (V : Int) * 128 + (ch.toNat : Int) % 128 < 18446744073709551616 := by omega
      have hub2 : (V : Int) * 128 < 18446744073709551616 := by omega
      have hV0 : (0 : Int) ≤ (V : Int) := by omega
      clear hst hle hg hUU hjt
      generalize ch.toNat = cn at *
      go_wp2_with fail
      go_roundw
      case rel => exact ⟨j, by omega, by go_num, by rw [Hv.out]; first | rfl | done | (congr 1; omega), hid trivial⟩
      case measure => first | (simp [intOf]; done) | (simp [intOf]; omega)
    | zero =>
      have hi : ¬ ((0 : Int) ≤ (((0 : Nat) : Int) - 1)) := by decide
      have e1 : (((0 : Nat) : Int) - 1) = -1 := rfl
      rw [e1] at hi ⊢
      rw [List.drop_zero]
      have hUU := HU.out
      obtain ⟨U, hUe⟩ : ∃ U, U = valB (bs.take N) := ⟨_, rfl⟩
      have Hns2 := hid (show numS bs = (unzig U, bs.drop N, false) by rw [hUe]; exact Hns.out)
      rw [← hUe] at hUU ⊢
      clear hUe
      obtain ⟨A', hA', hq⟩ := slice_fromK H2.out N hNn
      have HA' := hid hA'
      have g1 : wr.frozen? ⟨r, 0, none⟩ = false := by simp [World.frozen?, Hrow.out]
      have hpost := hid (show RNumIs wr S r bs bad (.returned (.int .i64 (unzig U))) (wr.setCell ⟨r, 0, none⟩ (.slice A' (n - N) (c - N))) from by
        have hkp : Kept2 r r wr (wr.setCell ⟨r, 0, none⟩ (.slice A' (n - N) (c - N))) := ⟨rfl, rfl, rfl, by simp, fun j hj h1 _ => heap_setCell_other wr ⟨r, 0, none⟩ j _ (fun e => h1 e)⟩
        have hl : (bs.drop N).length = n - N := by rw [List.length_drop, Hn.out]
        refine ⟨by rw [Hns2.out], ?_, hkp⟩
        rw [Hns2.out, Bool.or_false]
        exact ⟨⟨A', _, by rw [hl]; exact heap_setCell_row Hrow.out _, by rw [hl]; exact slR_kept HA'.out hkp H.out.own H.out.own⟩, H.out.own⟩)
      clear hA'
      have hU0 : (0 : Int) ≤ (U : Int) := by omega
      have hU1 : (U : Int) < 18446744073709551616 := by omega
      have hNc : (N : Int) ≤ (c : Int) := by omega
      have hNn' : (N : Int) ≤ (n : Int) := by omega
      by_cases hodd : U % 2 = 1
      · have hb : ((U : Int) % 2 == 1) = true := by rw [beq_iff_eq]; omega
        have Hz := hid (show unzig U = -((U : Int) / 2) - 1 by unfold unzig; rw [if_neg (by omega)]; omega)
        clear hodd
        go_wp2_with fail
        go_ret
        have := hpost.out
        rw [Hz.out] at this
        exact this
      · have hb : ((U : Int) % 2 == 1) = false := beq_eq_false_iff_ne.2 (by omega)
        have Hz := hid (show unzig U = (U : Int) / 2 by unfold unzig; rw [if_pos (by omega)]; omega)
        clear hodd
        go_wp2_with fail
        go_ret
        have := hpost.out
        rw [Hz.out] at this
        exact this
structure RTextIs (w : World) (S : Nat → Prop) (r : Nat) (bs : List UInt8) (bad : Bool) (e : Ending) (w' : World) : Prop where
  ans : e = .returned (.string (str (textS bs).1))
  rd : RrIs w' S r (textS bs).2.1 (bad || (textS bs).2.2)
  kept : Kept2 r r w w'
set_option maxRecDepth 100000 in
set_option maxHeartbeats 2000000 in
theorem rrText_at {w : World} {S : Nat → Prop} {r : Nat} {bs : List UInt8} {bad : Bool} (h : RrIs w S r bs bad) (hb : bs.length ≤ 1000000000000) :
    Calls Tryz.prog 93 #[.pointer (some ⟨r, 0, none⟩)] w fun e w' => RTextIs w S r bs bad e w' := by
  have hcc := rrNum_at h
  have HL := hid (numS_len bs)
  have H0 := hid h
  clear h
  go_enter Tryz.func93, Tryz.ntmps93
  go_wp2_with fail
  refine hcc.mono ?_
  clear hcc
  rintro e w1 ⟨rfl, hR, hK⟩
  obtain ⟨nv, hnv⟩ : ∃ nv, nv = (numS bs).1 := ⟨_, rfl⟩
  obtain ⟨b1, hb1⟩ : ∃ b1, b1 = (numS bs).2.1 := ⟨_, rfl⟩
  obtain ⟨f1, hf1⟩ : ∃ f1, f1 = (numS bs).2.2 := ⟨_, rfl⟩
  have Hns := hid (show numS bs = (nv, b1, f1) by rw [hnv, hb1, hf1])
  rw [← hb1, ← hf1] at hR
  rw [← hnv]
  have hlb : b1.length ≤ 1000000000000 := by rw [hb1]; have := HL.out; omega
  clear hnv hb1 hf1 HL
  have HR := hid hR
  have HK := hid hK
  obtain ⟨A, c, h1, h2⟩ := hR.row
  have c0 : w1.cell? ⟨r, 0, none⟩ = some (.slice A b1.length c) := by rw [cell_of_row _ _ _ _ _ _ h1]; rfl
  have hnc := h2.2.1
  have hcm := h2.2.2.1
  have H2 := hid h2; have Hrow := hid h1
  clear hR hK h1 h2
  generalize hn1 : b1.length = n1 at *
  have Hn1 := hid hn1
  clear hn1
  by_cases hbad : nv < 0 ∨ (n1 : Int) < nv
  · have Hts := hid (show textS bs = ([], [], true) by
      cases ho : numO bs with
      | none => exact (textS_none ho).2
      | some y =>
        obtain ⟨x, rr⟩ := y
        have h3 : numS bs = (x, rr, false) := by unfold numS; rw [ho]
        rw [Hns.out] at h3
        simp only [Prod.mk.injEq] at h3
        obtain ⟨rfl, rfl, -⟩ := h3
        exact (textS_bad ho (by have := Hn1.out; omega)).2)
    have hcc := rrFail_at HR.out
    go_upto_region 2 with (fail)
    go_cut [17] (fun z wx => z = .bool true ∧ Hid (wx = w1))
    case first =>
      by_cases h0 : nv < 0
      · go_wp2_with fail
        go_meet
        case rel => exact ⟨rfl, hid rfl⟩
      · have h1 : (n1 : Int) < nv := by omega
        go_wp2_with fail
        go_meet
        case rel => exact ⟨rfl, hid rfl⟩
    case rest =>
    obtain ⟨rfl, hw⟩ := hcut
    obtain rfl := hw.out.symm
    clear hw
    go_wp2_with fail
    refine hcc.mono ?_
    clear hcc
    rintro e w2 ⟨⟨v, rfl⟩, hR, hK⟩
    have HR2 := hid hR; have HK2 := hid (HK.out.trans hK)
    clear hR hK
    go_wp2
    go_ret
    exact ⟨by rw [Hts.out]; rfl, by rw [Hts.out, Bool.or_true]; exact HR2.out, HK2.out⟩
  · obtain ⟨m, rfl⟩ : ∃ m : Nat, nv = (m : Int) := ⟨nv.toNat, by omega⟩
    have hm0 : ¬ ((m : Int) < 0) := by omega
    have hm1 : ¬ ((n1 : Int) < (m : Int)) := by omega
    have hm2 : (0 : Int) ≤ (m : Int) := by omega
    have hmn : m ≤ n1 := by omega
    have Hts := hid (show (textS bs).1 = b1.take m ∧ (textS bs).2.1 = b1.drop m ∧ (textS bs).2.2 = f1 by
      cases ho : numO bs with
      | none =>
        have h3 := textS_none ho
        have h4 := h3.1
        rw [Hns.out] at h4
        simp only [Prod.mk.injEq] at h4
        obtain ⟨h5, rfl, rfl⟩ := h4
        rw [h3.2]
        exact ⟨by simp, by simp, rfl⟩
      | some y =>
        obtain ⟨x, rr⟩ := y
        have h3 : numS bs = (x, rr, false) := by unfold numS; rw [ho]
        rw [Hns.out] at h3
        simp only [Prod.mk.injEq] at h3
        obtain ⟨rfl, rfl, rfl⟩ := h3
        rw [(textS_good ho (by have := Hn1.out; omega)).2, Int.toNat_natCast]
        exact ⟨rfl, rfl, rfl⟩)
    have hst := run_str (slR_rb (slR_take H2.out m hmn)) c
    rw [show (b1.take m).length = m by rw [List.length_take]; have := Hn1.out; omega] at hst
    obtain ⟨A', hA', hq⟩ := slice_fromK H2.out m hmn
    have g1 : w1.frozen? ⟨r, 0, none⟩ = false := by simp [World.frozen?, Hrow.out]
    have hmc : (m : Int) ≤ (c : Int) := by omega
    have HA' := hid hA'
    clear hA' hbad
    generalize hx : str (b1.take m) = sx at *
    have Hx := hid hx
    clear hx
    go_wp2_with fail
    go_ret
    have hkp : Kept2 r r w1 (w1.setCell ⟨r, 0, none⟩ (.slice A' (n1 - m) (c - m))) := ⟨rfl, rfl, rfl, by simp, fun j hj h1 _ => heap_setCell_other w1 ⟨r, 0, none⟩ j _ (fun e => h1 e)⟩
    have hl : (b1.drop m).length = n1 - m := by rw [List.length_drop]; have := Hn1.out; omega
    refine ⟨by rw [Hts.out.1, Hx.out]; rfl, by rw [Hts.out.2.1, Hts.out.2.2]; exact ⟨⟨A', _, by rw [hl]; exact heap_setCell_row Hrow.out _, by rw [hl]; exact slR_kept HA'.out hkp HR.out.own HR.out.own⟩, HR.out.own⟩, HK.out.trans hkp⟩
end Go.Proofs.YtakebdeldndaaaaGreatDoor
/- registrarref16.Set.Load: what stands while it goes. -/
namespace Go.Proofs.YtakebdeldndaaaaGreatDoor
open Go Go.RowKit
set_option linter.unusedSimpArgs false
set_option linter.unusedVariables false
theorem putD_d (L : List Pc) (i : Nat) (D : Ents) : (putD L i D).map (·.d) = L.map (·.d) := by
  unfold putD; split
  · rename_i x hx
    rw [List.map_set]
    obtain ⟨hi, rfl⟩ := List.getElem?_eq_some_iff.1 hx
    refine List.ext_getElem (by simp) fun j h1 h2 => ?_
    rw [List.getElem_set]
    split
    · rename_i e; subst e; rw [List.getElem_map]
    · rfl
  · rfl
theorem ScsIs.load {w w' : World} {S : Nat → Prop} {L : List Pc} (h : ScsIs w S L) {i : Nat} (hi : i < L.length) {D' : Ents} {r : Nat} (hS : RefSt w' S L[i].s L[i].d D') (hk : Kept2 L[i].s r w w') (hr : S r) (hb : ¬ Blk L r) : ScsIs w' S (putD L i D') := by
  rw [putD_at hi]
  have hx := h.each _ (List.getElem_mem hi)
  refine ⟨fun y hy => ?_, ?_⟩
  · obtain ⟨j, hj, rfl⟩ := List.getElem_of_mem hy
    rw [List.length_set] at hj
    rw [List.getElem_set]
    split
    · exact ⟨hS, hx.eq⟩
    · rename_i e
      have ha := apart_get h.apart hj hi (fun e' => e e'.symm)
      exact (h.each _ (List.getElem_mem hj)).kept hk hx.sIn hr ha.1 (fun e => hb ⟨_, List.getElem_mem hj, .inl e.symm⟩) ha.2.2.1 (fun e => hb ⟨_, List.getElem_mem hj, .inr e.symm⟩)
  · rw [List.pairwise_iff_getElem]
    intro a b ha hb' hab
    rw [List.length_set] at ha hb'
    rw [List.getElem_set, List.getElem_set]
    have := List.pairwise_iff_getElem.1 h.apart a b ha hb' hab
    split
    · rename_i e; subst e
      split
      · rename_i e; omega
      · exact this
    · split
      · rename_i e; subst e; exact this
      · exact this
structure RLc (w : World) (S : Nat → Prop) (y r : Nat) : Prop where
  lt : ∀ k, S k → k < w.heap.size
  yIn : S y
  rIn : S r
  ne : r ≠ y
structure RLd (w : World) (S : Nat → Prop) (y : Nat) (d : DefV) (D : Ents) (r : Nat) (bs : List UInt8) (bad : Bool) (l : Ents) (u : Value) (W : World) : Prop where
  st : RefSt W (SY w S) y d D
  rd : RrIs W (SY w S) r bs bad
  own : OwnK REnt 150 (fun _ => False) W w.heap.size u l
  kept : Kept2 r r w W
section
variable {w W W' : World} {S : Nat → Prop} {y r : Nat} {d : DefV} {D l l' : Ents} {bs bs' : List UInt8} {bad bad' : Bool} {u u' : Value}
theorem RLd.ext (h : RLd w S y d D r bs bad l u W) (hE : Ext W W') : RLd w S y d D r bs bad l u W' :=
  ⟨h.st.ext hE, h.rd.ext hE, h.own.ext hE fun _ h => h.elim, h.kept.trans (Kept2.of_ext hE)⟩
theorem RLd.ownLt (h : RLd w S y d D r bs bad l u W) (k : Nat) (hk : u.ownBlock = some k) : w.heap.size ≤ k ∧ k < W.heap.size := by
  obtain ⟨cs, ho, -⟩ := h.own
  exact World.ownsRow.lt ho k hk
theorem RLd.cells (h : RLd w S y d D r bs bad l u W) : W.cell? ⟨r, 1, none⟩ = some (.bool bad) := by
  obtain ⟨A, c, h1, -⟩ := h.rd.row
  rw [cell_of_row _ _ _ _ _ _ h1]; rfl
theorem RLd.read (h : RLd w S y d D r bs bad l u W) (c : RLc w S y r) (hR : RrIs W' (SY w S) r bs' bad') (hK : Kept2 r r W W') : RLd w S y d D r bs' bad' l u W' := by
  have hr := c.lt r c.rIn
  refine ⟨h.st.kept hK (.inl c.rIn) (.inl c.rIn) c.ne.symm c.ne.symm, hR, ?_, h.kept.trans hK⟩
  refine h.own.kept (row := some r) ⟨hK.os, hK.tape, hK.output, hK.size, fun k hk' hne => hK.block k hk' (fun e => hne (by rw [e])) (fun e => hne (by rw [e]))⟩ ?_ (fun _ h => h.elim)
  cases hu : u.ownBlock with
  | none => exact .inl rfl
  | some g => right; intro e; have := h.ownLt g hu; injection e with e; omega
theorem RLd.work {z : Nat} (h : RLd w S y d D r bs bad l u W) (c : RLc w S y r) (hK : Kept2 z z W W') (hz : w.heap.size ≤ z) (hu : u.ownBlock ≠ some z) : RLd w S y d D r bs bad l u W' := by
  have h1 := c.lt r c.rIn; have h2 := c.lt y c.yIn
  refine ⟨h.st.kept hK (.inr hz) (.inr hz) (by omega) (by omega), h.rd.kept hK (.inr hz) (.inr hz) (by omega) (by omega), ?_, ?_⟩
  · exact h.own.kept (row := some z) ⟨hK.os, hK.tape, hK.output, hK.size, fun k hk' hne => hK.block k hk' (fun e => hne (by rw [e])) (fun e => hne (by rw [e]))⟩ (.inr hu) (fun _ h => h.elim)
  · exact ⟨hK.os.trans h.kept.os, hK.tape.trans h.kept.tape, hK.output.trans h.kept.output, Nat.le_trans h.kept.size hK.size, fun k hk h1 h2 => (hK.block k (Nat.lt_of_lt_of_le hk h.kept.size) (by omega) (by omega)).trans (h.kept.block k hk h1 h2)⟩
theorem RLd.app (h : RLd w S y d D r bs bad l u W) (c : RLc w S y r) (ho : OwnK REnt 150 (fun _ => False) W' w.heap.size u' l') (hg : W.grownBy W' u.ownBlock) : RLd w S y d D r bs bad l' u' W' := by
  have h1 := c.lt r c.rIn; have h2 := c.lt y c.yIn
  cases hu : u.ownBlock with
  | none =>
    rw [hu] at hg
    have hE : Ext W W' := ⟨hg.os, hg.tape, hg.output, hg.size, fun k hk => hg.block k hk (by simp)⟩
    exact ⟨h.st.ext hE, h.rd.ext hE, ho, h.kept.trans (Kept2.of_ext hE)⟩
  | some z =>
    rw [hu] at hg
    have hK : Kept2 z z W W' := Kept2.of_grown hg (.inl rfl)
    have hz := (h.ownLt z hu).1
    exact ⟨h.st.kept hK (.inr hz) (.inr hz) (by omega) (by omega), h.rd.kept hK (.inr hz) (.inr hz) (by omega) (by omega), ho,
      ⟨hK.os.trans h.kept.os, hK.tape.trans h.kept.tape, hK.output.trans h.kept.output, Nat.le_trans h.kept.size hK.size, fun k hk h1 h2 => (hK.block k (Nat.lt_of_lt_of_le hk h.kept.size) (by omega) (by omega)).trans (h.kept.block k hk h1 h2)⟩⟩
end
theorem RrIs.less {w : World} {S S' : Nat → Prop} {r : Nat} {bs : List UInt8} {bad : Bool} (h : RrIs w S r bs bad) (hS : ∀ k, S' k → S k) (hr : S' r) : RrIs w S' r bs bad := by
  obtain ⟨A, c, h1, h2⟩ := h.row
  exact ⟨⟨A, c, h1, h2.mono fun k hk => ⟨hk.1, fun h' => hk.2 (hS k h')⟩⟩, hr⟩
structure SLdR (w : World) (S1 : Nat → Prop) (p r : Nat) (A : Option Addr) (c : Nat) (L0 : List Pc) (bs : List UInt8) (k : Nat) (L : List Pc) (bk : List UInt8) (Es : List Ents) (wr : World) : Prop where
  pcs : ScsIs wr S1 L
  rd : RrIs wr S1 r bk false
  sE : L.map (·.s) = L0.map (·.s)
  dE : L.map (·.d) = L0.map (·.d)
  ld : ldO ((L0.map (·.d)).take k) bs = some (Es, bk)
  es : (L.take k).map (·.D) = Es
  lt : ∀ j, S1 j → j < wr.heap.size
  blk : ∀ j, Blk L j → w.heap.size ≤ j ∧ j ≠ r
  free : ¬ Blk L p
  row : SlR Rep.ptr wr (fun j => Free L p wr j ∧ w.heap.size ≤ j ∧ j ≠ r) A L.length c (L.map (·.s))
  cell : wr.heap[p]? = some (.cells #[.slice A L.length c] 153)
  ext : Ext w wr
section
variable {w wr w2 : World} {S1 : Nat → Prop} {p r : Nat} {A : Option Addr} {c : Nat} {L0 L : List Pc} {bs bk : List UInt8} {k : Nat} {Es : List Ents}
theorem SLdR.len (h : SLdR w S1 p r A c L0 bs k L bk Es wr) : L.length = L0.length := by
  have := congrArg List.length h.sE
  simpa using this
theorem SLdR.pLt (h : SLdR w S1 p r A c L0 bs k L bk Es wr) : p < wr.heap.size := (Array.getElem?_eq_some_iff.1 h.cell).1
theorem SLdR.cell0 (h : SLdR w S1 p r A c L0 bs k L bk Es wr) : wr.cell? ⟨p, 0, none⟩ = some (.slice A L.length c) := by rw [cell_of_row _ _ _ _ _ _ h.cell]; rfl
theorem SLdR.rlc (h : SLdR w S1 p r A c L0 bs k L bk Es wr) (hk : k < L.length) (hr : S1 r) : RLc wr S1 L[k].s r := by
  have hx := h.pcs.each _ (List.getElem_mem hk)
  have h1 := h.blk L[k].s ⟨_, List.getElem_mem hk, .inl rfl⟩
  exact ⟨h.lt, hx.sIn, hr, h1.2.symm⟩
theorem SLdR.stD (h : SLdR w S1 p r A c L0 bs k L bk Es wr) (hk : k < L.length) (hk0 : k < (L0.map (·.d)).length) : (L0.map (·.d))[k] = L[k].d := by
  have h1 : (L.map (·.d))[k]'(by rw [List.length_map]; exact hk) = (L0.map (·.d))[k]'hk0 := by simp only [h.dE]
  rw [← h1, List.getElem_map]
theorem SLdR.bkLen (h : SLdR w S1 p r A c L0 bs k L bk Es wr) : bk.length ≤ bs.length := ldO_rest h.ld
theorem SLdR.step (h : SLdR w S1 p r A c L0 bs k L bk Es wr) (hk : k < L.length) (hr : S1 r ∧ w.heap.size ≤ r) (hp : w.heap.size ≤ p ∧ p ≠ r) {D' : Ents} {b' : List UInt8}
    (hst : stO L[k].d bk = some (D', b')) (hS : RefSt w2 S1 L[k].s L[k].d D') (hR : RrIs w2 S1 r b' false) (hK : Kept2 L[k].s r wr w2) :
    SLdR w S1 p r A c L0 bs (k + 1) (putD L k D') b' (Es ++ [D']) w2 := by
  have hx := h.pcs.each _ (List.getElem_mem hk)
  have hk0 : k < (L0.map (·.d)).length := by rw [List.length_map]; have := h.len; omega
  have hs := h.blk L[k].s ⟨_, List.getElem_mem hk, .inl rfl⟩
  have hrb : ¬ Blk L r := fun hb => (h.blk r hb).2 rfl
  have hpS : p ≠ L[k].s := fun e => h.free ⟨_, List.getElem_mem hk, .inl e⟩
  refine ⟨h.pcs.load hk hS hK hr.1 hrb, hR, by rw [putD_s, h.sE], by rw [putD_d, h.dE], ldO_next hk0 h.ld (by rw [h.stD hk]; exact hst), ?_, fun j hj => Nat.lt_of_lt_of_le (h.lt j hj) hK.size, fun j hj => h.blk j (putD_blk.1 hj), fun hb => h.free (putD_blk.1 hb), ?_, ?_, ?_⟩
  · rw [← h.es]
    have h1 : k < (putD L k D').length := by rw [length_putD]; exact hk
    rw [List.take_succ_eq_append_getElem h1, List.map_append]
    have e1 : (putD L k D')[k] = ⟨L[k].s, L[k].m, L[k].d, D'⟩ := by simp only [putD_at hk, List.getElem_set_self]
    have e2 : (putD L k D').take k = L.take k := by rw [putD_at hk, List.take_set_of_le (Nat.le_refl _)]
    rw [e1, e2]
    rfl
  · rw [length_putD, putD_s]
    exact (h.row.ext fun j hj => hK.block j hj.1.1 (fun e => hj.1.2.2 ⟨_, List.getElem_mem hk, .inl e⟩) hj.2.2).mono fun j hj => ⟨⟨Nat.lt_of_lt_of_le hj.1.1 hK.size, hj.1.2.1, fun hb => hj.1.2.2 (putD_blk.1 hb)⟩, hj.2⟩
  · rw [length_putD, hK.block p h.pLt hpS hp.2]
    exact h.cell
  · exact h.ext.trans (hK.below hs.1 hr.2 h.ext.size)
end
structure SLoadIs (w : World) (S : Nat → Prop) (p : Nat) (L : List Pc) (bs : List UInt8) (x : Ending) (w' : World) : Prop where
  kept : Kept2 p p w w'
  ans : (∃ Es L' S', ldAll (L.map (·.d)) bs = some Es ∧ x = .returned (.int .i64 0) ∧ RSetIs w' S' p L' ∧ viewP L' = (L.map (·.d)).zip Es ∧ (∀ k, S' k → (S k ∨ w.heap.size ≤ k) ∧ k < w'.heap.size) ∧ (∀ k, S k → S' k) ∧ SRowLo w' w.heap.size p L' ∧ (∀ k, Blk L' k → w.heap.size ≤ k)) ∨
    (ldAll (L.map (·.d)) bs = none ∧ x = .returned (.int .i64 2) ∧ Ext w w')
end Go.Proofs.YtakebdeldndaaaaGreatDoor
/- registrarref16.Set.Load. -/
namespace Go.Proofs.YtakebdeldndaaaaGreatDoor
open Go Go.RowKit
set_option linter.unusedSimpArgs false
set_option linter.unusedVariables false
set_option maxRecDepth 100000 in
set_option maxHeartbeats 8000000 in
theorem refSetLoad_at {w : World} {S : Nat → Prop} {p : Nat} {L : List Pc} (h : RSetIs w S p L) (hS : ∀ k, S k → k < w.heap.size) (hl : L.length ≤ 1000) (hDl : ∀ x ∈ L, x.D.length ≤ 999000) {B0 : Option Addr} {nb cb : Nat} {bs : List UInt8} (hb : SlR Rep.u8 w (Out S w) B0 nb cb bs) (hlen : bs.length ≤ 1800000) :
    Calls Tryz.prog 94 #[.pointer (some ⟨p, 0, none⟩), .slice B0 nb cb] w fun x w' => SLoadIs w S p L bs x w' := by
  have HSet := hid h
  have HS := hid hS
  have Hlen := hid hlen
  have hnb := hb.1
  have HDl := hid hDl
  have hE0 := ext_alloc w (.cells #[] 5)
  have HR0 := hid ((slR_rb hb).below hE0)
  have HE0 := hid hE0
  have Hnb := hid hnb
  clear h hS hb hE0 hlen hDl
  go_enter Tryz.func94, Tryz.ntmps94
  go_wp2_with (at_builtin; refine wpList_appB (w0 := w) rfl (.tmp 12) (.tmp 13) rfl w.heap.size _ [] rfl (OB_empty w _ (Nat.le_refl _)) HE0 HE0.out.size B0 cb nb bs rfl Hnb HR0 (by have := Hlen.out; have := Hnb.out; simp; omega) ?_; intro v1 w1 HO HB _; obtain ⟨Ab, cb2, rfl, hRb⟩ := ob_out HO.out HS.out)
  have HB1 := hid HB.out
  obtain ⟨r, hr⟩ : ∃ r, r = w1.heap.size := ⟨_, rfl⟩
  have Hr := hid hr
  have hEb := ext_alloc w1 (.cells #[.slice Ab bs.length cb2, .bool false] 144)
  have HE2 := hid (Ext.trans' HB1.out hEb)
  have hs1 := HB1.out.size
  have HSx := hid (show ∀ k, (S k ∨ k = r) → (S k ∨ w.heap.size ≤ k) ∧ k < (w1.alloc (.cells #[.slice Ab bs.length cb2, .bool false] 144)).heap.size from fun k hk => by
    have := HE2.out.size
    rcases hk with hk | hk
    · have := HS.out k hk; exact ⟨.inl hk, by omega⟩
    · exact ⟨.inr (by omega), by simp; omega⟩)
  have HR2 := hid (show RrIs (w1.alloc (.cells #[.slice Ab bs.length cb2, .bool false] 144)) (fun k => S k ∨ k = r) r bs false from
    ⟨⟨Ab, cb2, by rw [hr]; exact heap_alloc_last _ _, slR_more hRb hEb fun k hk => hk.imp id fun e => by omega⟩, .inr rfl⟩)
  have HS2 := hid (HSet.out.more (S' := fun k => S k ∨ k = r) HE2.out (fun k hk => (HSx.out k hk).1) fun k hk => .inl hk)
  have hcc := refSetClone_at HS2.out (fun k hk => (HSx.out k hk).2) hl HDl.out
  clear hr hEb hRb HO HB HR0 HE0
  go_wp2_with fail
  rw [← Hr.out]
  generalize w1.alloc (.cells #[.slice Ab bs.length cb2, .bool false] 144) = w2 at *
  refine hcc.mono ?_
  clear hcc
  rintro e w3 ⟨hE, p', vv, L', rfl, hI⟩
  have HE3 := hid (HE2.out.trans' hE)
  have hdone := hI.done
  have Hlt := hid (fun k hk => hI.lt k hk)
  obtain ⟨A', c', hc', hrow⟩ := hI.rowLo
  have Hview := hid hI.view
  have hs2 := HE2.out.size
  have Hr2 := hid (show w.heap.size ≤ r ∧ r < w2.heap.size from ⟨by have := Hr.out; omega, HR2.out.lt⟩)
  have Hp' := hid (show w2.heap.size ≤ p' ∧ p' < w3.heap.size from ⟨hI.lo.2, hI.pLt⟩)
  have hnc := hrow.2.1
  have hcm := hrow.2.2.1
  have hvg := (view_get hI.view).1
  have hl' : L'.length ≤ 1000 := by omega
  have HSup := hid (show ∀ j, NewS (fun k => S k ∨ k = r) p' vv L' j → (S j ∨ w.heap.size ≤ j) ∧ j < w3.heap.size from fun j hj => by
    have := hE.size; have := Hr2.out
    rcases hj with hj | hj | hj | hj
    · have := Hp'.out; exact ⟨.inr (by omega), by omega⟩
    · have := Hlt.out j (.inr (.inl hj)); exact ⟨.inr (by omega), this.2⟩
    · have := Hlt.out j (.inr (.inr (.inl hj))); exact ⟨.inr (by omega), this.2⟩
    · have := HSx.out j hj; exact ⟨this.1, by omega⟩)
  have HrS := hid (show NewS (fun k => S k ∨ k = r) p' vv L' r from .inr (.inr (.inr (.inr rfl))))
  have HpS := hid (show NewS (fun k => S k ∨ k = r) p' vv L' p from .inr (.inr (.inr (.inl HSet.out.pIn))))
  have HSS := hid (show ∀ j, S j → NewS (fun k => S k ∨ k = r) p' vv L' j from fun j hj => .inr (.inr (.inr (.inl hj))))
  have HR0 := hid (show SLdR w (NewS (fun k => S k ∨ k = r) p' vv L') p' r A' c' L' bs 0 L' bs [] w3 from
    ⟨hdone.pcs, HR2.out.more hE (fun j hj => by
      rcases hj with hj | hj | hj | hj
      · right; have := Hp'.out; omega
      · right; have := Hlt.out j (.inr (.inl hj)); omega
      · right; have := Hlt.out j (.inr (.inr (.inl hj))); omega
      · exact .inl hj) HrS.out, rfl, rfl, rfl, rfl, fun j hj => (HSup.out j hj).2, fun j hj => by have := Hlt.out j (.inr (.inr (.inl hj))); have := Hr2.out; omega, hdone.pFree,
      hrow.mono fun j hj => ⟨hj.1, by have := hj.2; omega, by have := hj.2; have := Hr2.out; omega⟩, hc', HE3.out⟩)
  have HdE := hid (show L'.map (·.d) = L.map (·.d) from by
    have := congrArg (List.map Prod.fst) hI.view
    unfold viewP at this
    simp only [List.map_map] at this
    exact this)
  clear hI hdone hrow hc' hE hvg hs1 hs2
  generalize NewS (fun k => S k ∨ k = r) p' vv L' = S1 at *
  generalize hln : L'.length = n' at hnc hl' ⊢
  have Hln := hid hln
  clear hln
  go_wp2_with fail
  go_loopw [7] (fun i wr => ∃ k : Nat, k ≤ n' ∧ i = .int .i64 (k : Int) ∧ Hid (∃ Lk bk Es, SLdR w S1 p' r A' c' L' bs k Lk bk Es wr)) (fun i _ => n' - (intOf i).toNat)
  case atStart => exact ⟨0, by omega, rfl, hid ⟨_, _, _, HR0.out⟩⟩
  case round =>
    obtain ⟨k, hk, rfl, HP⟩ := hrel
    obtain ⟨Lk, bk, Es, hR⟩ := HP.out
    have HR := hid hR
    clear hR HP HR0
    have hlk : Lk.length = n' := by rw [HR.out.len]; exact Hln.out
    have hLk := hid hlk
    have c0 := HR.out.cell0
    rw [hlk] at c0
    by_cases hlt : k < n'
    · have hkx : k < Lk.length := by omega
      have hkd : k < (L'.map (·.d)).length := by rw [List.length_map]; have := Hln.out; omega
      have hlt' : (k : Int) < (n' : Int) := by omega
      have hk00 : ¬ ((k : Int) < 0) := by omega
      have hk0 : (0 : Int) ≤ (k : Int) := by omega
      obtain ⟨b, o, rfl, hbF, f0⟩ := ptr_at HR.out.row k (by rw [List.length_map]; exact hkx)
      rw [List.getElem_map] at f0
      have HbF := hid hbF
      have Hf0 := hid f0
      have Hc0 := hid c0
      have HC := hid (HR.out.rlc hkx HrS.out)
      have HSt := hid (HR.out.pcs.each _ (List.getElem_mem hkx)).st
      have Hst := hid (HR.out.stD hkx hkd)
      have Hnx := hid (fun D' b' W h1 h2 h3 h4 => HR.out.step (w2 := W) hkx ⟨HrS.out, Hr2.out.1⟩ ⟨Nat.le_trans HE2.out.size Hp'.out.1, by have := Hp'.out; have := Hr2.out; omega⟩ (D' := D') (b' := b') h1 h2 h3 h4)
      have Hno := hid (show stO Lk[k].d bk = none → ldO (L.map (·.d)) bs = none from fun h => by
        rw [← HdE.out]
        exact ldO_no hkd HR.out.ld (by rw [HR.out.stD hkx hkd]; exact h))
      have HrE := hid (HR.out.ext)
      have Hsb := hid (HR.out.blk _ ⟨_, List.getElem_mem hkx, .inl rfl⟩)
      have Hsf := hid (show p' ≠ Lk[k].s ∧ b ≠ Lk[k].s from ⟨fun e => HR.out.free ⟨_, List.getElem_mem hkx, .inl e⟩, fun e => hbF.1.2.2 ⟨_, List.getElem_mem hkx, .inl e⟩⟩)
      have Hbkl := hid HR.out.bkLen
      have HI := hid (show RLd wr S1 Lk[k].s Lk[k].d Lk[k].D r bk false [] (.slice none 0 0) wr from ⟨HSt.out.more (Below.refl _ _) (fun k hk => hk) (.inl HC.out.yIn), HR.out.rd.more (Below.refl _ _) (fun k hk => hk) (.inl HC.out.rIn), OwnK.nil _ _, Kept2.refl _ _ _⟩)
      have HpL := hid HR.out.pLt
      have hcc := rrNum_at HI.out.rd
      generalize hst : Lk[k] = st at *
      clear f0 hbF hst
      obtain ⟨s, m, d, D⟩ := st
      dsimp only at HC HSt Hst Hnx Hno HI Hsb Hsf Hf0 ⊢
      go_wp2_with fail
      clear c0
      obtain ⟨W0, hW0⟩ : ∃ W, W = wr := ⟨_, rfl⟩
      subst hW0
      refine hcc.mono ?_
      clear hcc
      rintro e w4 ⟨rfl, hR, hK⟩
      have HI1 := hid (HI.out.read HC.out hR hK)
      clear hR hK
      obtain ⟨N, hN⟩ : ∃ N, N = (numS bk).1 := ⟨_, rfl⟩
      obtain ⟨b1, hb1⟩ : ∃ b, b = (numS bk).2.1 := ⟨_, rfl⟩
      obtain ⟨f1, hf1⟩ : ∃ b, b = (numS bk).2.2 := ⟨_, rfl⟩
      have Hlb := hid (show b1.length ≤ 1800000 by rw [hb1]; have := numS_len bk; have := Hbkl.out; have := Hlen.out; omega)
      have hNr := numS_range bk
      have HF := hid (show stO d bk = if f1 = true ∨ N < 0 then none else if (accS N.toNat [] b1 false).2.2 = true ∨ okE d (accS N.toNat [] b1 false).1 = false then none else some ((accS N.toNat [] b1 false).1, (accS N.toNat [] b1 false).2.1) by rw [hf1, hN, hb1]; rfl)
      rw [← hb1, ← hf1, Bool.false_or] at HI1
      rw [← hN] at hNr ⊢
      clear hN hb1 hf1 HI
      have hEl := ext_alloc w4 (.cells #[] 150)
      have HI2 := hid (show RLd W0 S1 s d D r b1 f1 [] (.slice (some ⟨w4.heap.size, 0, none⟩) 0 0) (w4.alloc (.cells #[] 150)) from
        let h := HI1.out.ext hEl
        ⟨h.st, h.rd, OwnK.empty _ _ HI1.out.kept.size, h.kept⟩)
      clear hEl HI1
      go_wp2_with fail
      go_loopw [9, 10] (fun u i wr => ∃ (j : Nat) (lk : Ents) (bj : List UInt8) (fk : Bool), (j : Int) ≤ max N 0 ∧ i = .int .i64 (j : Int) ∧ Hid (RLd W0 S1 s d D r bj fk lk u wr) ∧ Hid (accS (N.toNat - j) lk bj fk = accS N.toNat [] b1 f1) ∧ Hid (2 * lk.length + bj.length ≤ 1800002 ∧ (fk = false → 2 * lk.length + bj.length ≤ 1800000)) ∧ Hid (∀ p ∈ lk, I64 p.2)) (fun _ i _ => N.toNat - (intOf i).toNat)
      case atStart => exact ⟨0, [], b1, f1, by omega, rfl, HI2, hid rfl, hid ⟨by have := Hlb.out; simp; omega, fun _ => by have := Hlb.out; simp; omega⟩, hid (fun p hp => by simp at hp)⟩
      case round =>
        clear HI2
        obtain ⟨j, lk, bj, fk, hj, rfl, HIk, HAk, HLk, HNk⟩ := hrel
        have b1c := HIk.out.cells
        have Hg := hid (show wr.cell? ⟨p', 0, none⟩ = some (.slice (some ⟨b, o, none⟩) n' c') ∧ wr.cell? ⟨b, o + k, none⟩ = some (.pointer (some ⟨s, 0, none⟩)) from by
          have h1 := HIk.out.kept.block p' HpL.out (by have := Hp'.out; have := Hr2.out; omega) (by have := Hp'.out; have := Hr2.out; omega)
          have h2 := HIk.out.kept.block b HbF.out.1.1 HbF.out.2.2 HbF.out.2.2
          have e1 : wr.cell? ⟨p', 0, none⟩ = W0.cell? ⟨p', 0, none⟩ := by unfold World.cell?; dsimp only; rw [h1]
          have e2 : wr.cell? ⟨b, o + k, none⟩ = W0.cell? ⟨b, o + k, none⟩ := by unfold World.cell?; dsimp only; rw [h2]
          exact ⟨by rw [e1]; exact Hc0.out, by rw [e2]; exact Hf0.out⟩)
        have HKk := hid HIk.out.kept
        have HEx := hid (show Ext w wr from HrE.out.trans (HKk.out.below Hr2.out.1 Hr2.out.1 HrE.out.size))
        by_cases hlt : (j : Int) < N
        · cases fk
          rotate_left
          · -- bad: the loop is left
            have HNo := hid (Hno.out (stO_bad HF.out HAk.out))
            have hN0 : ¬ (N < 0) := by omega
            -- bytes that are none: 2
            have hpost := hid (show SLoadIs w S p L bs (.returned (.int .i64 2)) wr from ⟨Kept2.of_ext HEx.out, .inr ⟨by unfold ldAll; rw [HNo.out], rfl, HEx.out⟩⟩)
            go_wp2
            go_ret
            exact hpost.out
          · have htx := rrText_at HIk.out.rd (by have := HLk.out.1; omega)
            go_wp2_with fail
            refine htx.mono ?_
            clear htx b1c
            rintro e w2 ⟨rfl, hR, hK⟩
            have HI2 := hid (HIk.out.read HC.out hR hK)
            clear hR hK
            have Htl := hid (textS_len bj)
            have Htlt := hid (fun h => textS_lt (bs := bj) h)
            obtain ⟨i, hj1, hj2⟩ : ∃ i, N.toNat - j = i + 1 ∧ N.toNat - (j + 1) = i := ⟨N.toNat - (j + 1), by omega, rfl⟩
            rw [hj1] at HAk
            have HA2 := hid ((accS_next i lk bj).symm.trans HAk.out)
            clear HAk hj1
            generalize hT : textS bj = T at *
            obtain ⟨tx, b2, f2⟩ := T
            have Hj2 := hid hj2
            clear hT hj2
            dsimp only at HI2 HA2 Htl Htlt
            rw [Bool.false_or] at HI2
            have hE3 := ext_alloc w2 (.cells #[.string (str tx), .int .i64 0] 150)
            have HI3 := hid (HI2.out.ext hE3)
            have Hyb := hid (And.intro (heap_alloc_last w2 (.cells #[.string (str tx), .int .i64 0] 150)) (show w2.heap.size < (w2.alloc (.cells #[.string (str tx), .int .i64 0] 150)).heap.size by simp))
            have Hyu := hid (show W0.heap.size ≤ w2.heap.size ∧ u9.ownBlock ≠ some w2.heap.size from ⟨HI2.out.kept.size, fun e => by have := (HI2.out.ownLt _ e).2; omega⟩)
            have hnm := rrNum_at HI3.out.rd
            clear hE3 HI2
            go_wp2_with fail
            generalize w2.alloc (.cells #[.string (str tx), .int .i64 0] 150) = w3 at *
            generalize w2.heap.size = yb at *
            refine hnm.mono ?_
            clear hnm
            rintro e w4 ⟨rfl, hR, hK⟩
            have HI4 := hid (HI3.out.read HC.out hR hK)
            have hyr : yb ≠ r := by have := HC.out.lt r HC.out.rIn; have := Hyu.out.1; omega
            have hyb4 := (hK.block yb Hyb.out.2 hyr hyr).trans Hyb.out.1
            have g0 : w4.frozen? ⟨yb, 1, none⟩ = false := by simp [World.frozen?, hyb4]
            have g1 : w4.cell? ⟨yb, 1, none⟩ = some (.int .i64 0) := by rw [cell_of_row _ _ _ _ _ _ hyb4]; rfl
            have Hnl := hid (numS_len b2)
            have Hnlt := hid (fun h => numS_lt (bs := b2) h)
            have Hnr := hid (numS_range b2)
            generalize hT : numS b2 = T at *
            obtain ⟨nm, b3, f3⟩ := T
            dsimp only at HI4 HA2 Hnl Hnlt Hnr ⊢
            clear hT hR hK HI3
            have hyb5 := heap_setCell_row (o := 1) hyb4 (.int .i64 nm)
            have e0 : (w4.setCell ⟨yb, 1, none⟩ (.int .i64 nm)).cell? ⟨yb, 0, none⟩ = some (.string (str tx)) := by rw [cell_of_row _ _ _ _ _ _ hyb5]; rfl
            have e1 : (w4.setCell ⟨yb, 1, none⟩ (.int .i64 nm)).cell? ⟨yb, 1, none⟩ = some (.int .i64 nm) := by rw [cell_of_row _ _ _ _ _ _ hyb5]; rfl
            have HI5 := hid (HI4.out.work HC.out (z := yb) (W' := w4.setCell ⟨yb, 1, none⟩ (.int .i64 nm)) ⟨rfl, rfl, rfl, by simp, fun k hk h1 _ => heap_setCell_other w4 ⟨yb, 1, none⟩ k _ (fun h => h1 h)⟩ Hyu.out.1 Hyu.out.2)
            clear hyb4 hyb5 HI4
            have hE6 := ext_alloc (w4.setCell ⟨yb, 1, none⟩ (.int .i64 nm)) (.cells #[.string (str tx), .int .i64 nm] 150)
            have HI6 := hid (HI5.out.ext hE6)
            have HO6 := hid HI6.out.own
            have hbase := HI6.out.kept.size
            have HB6 := hid (Below.refl W0.heap.size ((w4.setCell ⟨yb, 1, none⟩ (.int .i64 nm)).alloc (.cells #[.string (str tx), .int .i64 nm] 150)))
            have HFK := hid (show ∀ k, False → k < W0.heap.size from fun _ h => h.elim)
            have Hbox := hid (show ∃ cs, Rows REnt ((w4.setCell ⟨yb, 1, none⟩ (.int .i64 nm)).alloc (.cells #[.string (str tx), .int .i64 nm] 150)) (fun _ => False) [(tx, nm)] cs ∧ RV ((w4.setCell ⟨yb, 1, none⟩ (.int .i64 nm)).alloc (.cells #[.string (str tx), .int .i64 nm] 150)) (some ⟨w4.heap.size, 0, none⟩) cs from
              ⟨_, Rows.single (field_mk (f := (tx, nm)) (by have := Htl.out.2; have := HLk.out.1; unfold Short; dsimp only; omega)), by have := rv_cells (w4.setCell ⟨yb, 1, none⟩ (.int .i64 nm)) [.string (str tx), .int .i64 nm] 150; rwa [show (w4.setCell ⟨yb, 1, none⟩ (.int .i64 nm)).heap.size = w4.heap.size by simp] at this⟩)
            have hll := HLk.out.1
            clear hE6 HI5
            go_wp2_with (at_builtin; refine wpList_appK (w0 := (w4.setCell ⟨yb, 1, none⟩ (.int .i64 nm)).alloc (.cells #[.string (str tx), .int .i64 nm] 150)) (R := REnt) (K := fun _ => False) (xs := lk) (base := W0.heap.size) entinfo rfl (.tmp 49) (.tmp 51) rfl rfl HO6 HFK HB6 hbase (some ⟨w4.heap.size, 0, none⟩) 1 1 [(tx, nm)] rfl rfl Hbox (by omega) (by omega) ?_; intro v2 W2 HO7 _ HG7; clear e0 e1)
            all_goals
              have HI7 := hid (HI6.out.app HC.out HO7.out HG7.out.grown)
              go_roundw
              case rel => exact ⟨j + 1, lk ++ [(tx, nm)], b3, f2 || f3, by omega, by go_num, HI7, hid (by rw [Hj2.out]; exact HA2.out), hid ⟨by rw [List.length_append, List.length_singleton]; have := HLk.out.2 trivial; have := Htl.out; have := Hnl.out; omega, fun hf => by
                  rw [List.length_append, List.length_singleton]
                  rw [Bool.or_eq_false_iff] at hf
                  have := HLk.out.2 trivial; have := Htlt.out hf.1; have := Hnlt.out hf.2; omega⟩, hid (fun p hp => by
                  rcases List.mem_append.1 hp with hp | hp
                  · exact HNk.out p hp
                  · simp at hp; subst hp; exact Hnr.out)⟩
              case measure => simp [intOf]; omega
        · have hlt' : ¬ ((j : Int) < N) := hlt
          by_cases hN0 : N < 0
          · have HNo := hid (Hno.out (show stO d bk = none by rw [HF.out, if_pos (.inr hN0)]))
            -- bytes that are none: 2
            have hpost := hid (show SLoadIs w S p L bs (.returned (.int .i64 2)) wr from ⟨Kept2.of_ext HEx.out, .inr ⟨by unfold ldAll; rw [HNo.out], rfl, HEx.out⟩⟩)
            go_wp2
            go_ret
            exact hpost.out
          cases fk
          rotate_left
          · have HNo := hid (Hno.out (stO_bad HF.out HAk.out))
            -- bytes that are none: 2
            have hpost := hid (show SLoadIs w S p L bs (.returned (.int .i64 2)) wr from ⟨Kept2.of_ext HEx.out, .inr ⟨by unfold ldAll; rw [HNo.out], rfl, HEx.out⟩⟩)
            go_wp2
            go_ret
            exact hpost.out
          have HE := hid (stO_end HF.out HAk.out (by omega) (by omega))
          have HStS : RefSt wr S1 s d D := HIk.out.st.less (fun k hk => .inl hk) HC.out.yIn
          have HRd := hid (HIk.out.rd.less (fun k hk => .inl hk) HC.out.rIn)
          obtain ⟨Al, cl, rfl, hRl⟩ := ownK_out (S := S1) HIk.out.own (fun k hk => hk.elim) (fun k hk => HC.out.lt k hk)
          have hld := refLoad_at HStS hRl (by have := HLk.out.1; omega) (fun k hk => Nat.lt_of_lt_of_le (HC.out.lt k hk) HKk.out.size)
          have g0 := Hg.out.1
          have g1 := Hg.out.2
          clear HStS hRl HIk
          generalize lk.length = nl at *
          go_wp2_with fail
          refine hld.mono ?_
          clear hld g0 g1 b1c
          rintro e w5 ⟨rfl, hS', hK5⟩
          have HK := hid (show Kept2 s r W0 w5 from ⟨hK5.os.trans HKk.out.os, hK5.tape.trans HKk.out.tape, hK5.output.trans HKk.out.output, Nat.le_trans HKk.out.size hK5.size, fun k hk h1 h2 => (hK5.block k (Nat.lt_of_lt_of_le hk HKk.out.size) h1 h1).trans (HKk.out.block k hk h2 h2)⟩)
          cases hok : okE d lk
          · have HNo := hid (Hno.out (show stO d bk = none by rw [HE.out, if_pos hok]))
            have HEx := hid (show Ext w w5 from HrE.out.trans (HK.out.below Hsb.out.1 Hr2.out.1 HrE.out.size))
            rw [loadE_no hok]
            clear hS' hK5 hok
            -- bytes that are none: 2
            have hpost := hid (show SLoadIs w S p L bs (.returned (.int .i64 2)) w5 from ⟨Kept2.of_ext HEx.out, .inr ⟨by unfold ldAll; rw [HNo.out], rfl, HEx.out⟩⟩)
            go_wp2
            go_ret
            exact hpost.out
          · have HE2 := hid (show stO d bk = some (lk, bj) by rw [HE.out, if_neg (by rw [hok]; decide)])
            rw [loadE_ok hok]
            rw [loadF_ok hok] at hS'
            have HN2 := hid (Hnx.out lk bj w5 HE2.out hS' (HRd.out.kept hK5 HC.out.yIn HC.out.yIn HC.out.ne HC.out.ne) HK.out)
            clear hS' hK5 hok
            go_wp2_with fail
            go_roundw
            case rel => exact ⟨k + 1, by omega, by go_num, hid ⟨_, _, _, HN2.out⟩⟩
            case measure => simp [intOf]; omega
    · obtain rfl : k = n' := by omega
      have hlt' : ¬ ((k : Int) < (k : Int)) := by omega
      have hall : ldO (L.map (·.d)) bs = some (Es, bk) := by
        have h1 := HR.out.ld
        rw [List.take_of_length_le (by rw [List.length_map]; have := Hln.out; omega), HdE.out] at h1
        exact h1
      obtain ⟨Ar, cr, q1, -⟩ := HR.out.rd.row
      have r0 : wr.cell? ⟨r, 0, none⟩ = some (.slice Ar bk.length cr) := by rw [cell_of_row _ _ _ _ _ _ q1]; rfl
      by_cases hbk : bk = []
      rotate_left
      · have HNo := hid (show ldAll (L.map (·.d)) bs = none by unfold ldAll; rw [hall]; exact if_neg hbk)
        have hpos : (0 : Int) < (bk.length : Int) := by have := List.length_pos_iff.2 hbk; omega
        have HEx := hid HR.out.ext
        have hpost := hid (show SLoadIs w S p L bs (.returned (.int .i64 2)) wr from ⟨Kept2.of_ext HEx.out, .inr ⟨HNo.out, rfl, HEx.out⟩⟩)
        clear q1 hall hbk
        generalize bk.length = nk at *
        go_wp2
        go_ret
        exact hpost.out
      · subst hbk
        have hpos : ¬ ((0 : Int) < (([] : List UInt8).length : Int)) := by decide
        obtain ⟨A0, c0', hc0, -⟩ := HSet.out.row
        have hpl := HSet.out.lt
        have hcw : wr.heap[p]? = some (.cells #[.slice A0 L.length c0'] 153) := (HR.out.ext.block p hpl).trans hc0
        have g1 : wr.cell? ⟨p, 0, none⟩ = some (.slice A0 L.length c0') := by rw [cell_of_row _ _ _ _ _ _ hcw]; rfl
        have g2 : wr.frozen? ⟨p, 0, none⟩ = false := by simp [World.frozen?, hcw]
        have hkp : Kept2 p p wr (wr.setCell ⟨p, 0, none⟩ (.slice A' k c')) := ⟨rfl, rfl, rfl, by simp, fun j hj h1 _ => heap_setCell_other wr ⟨p, 0, none⟩ j _ (fun e => h1 e)⟩
        have hnb : ¬ Blk Lk p := fun hb => by have := (HR.out.blk p hb).1; omega
        have hrow2 : SlR Rep.ptr (wr.setCell ⟨p, 0, none⟩ (.slice A' k c')) (fun j => Free Lk p (wr.setCell ⟨p, 0, none⟩ (.slice A' k c')) j ∧ w.heap.size ≤ j) A' Lk.length c' (Lk.map (·.s)) :=
          (HR.out.row.ext fun j hj => hkp.block j hj.1.1 (by have := hj.2; omega) (by have := hj.2; omega)).mono fun j hj => ⟨⟨Nat.lt_of_lt_of_le hj.1.1 hkp.size, by have := hj.2; omega, hj.1.2.2⟩, hj.2.1⟩
        have hcl : (wr.setCell ⟨p, 0, none⟩ (.slice A' k c')).heap[p]? = some (.cells #[.slice A' Lk.length c'] 153) := by rw [hlk]; exact heap_setCell_row hcw _
        have hSet : RSetIs (wr.setCell ⟨p, 0, none⟩ (.slice A' k c')) S1 p Lk := ⟨⟨A', c', hcl, hrow2.mono fun j hj => hj.1⟩, HR.out.pcs.kept hkp HpS.out HpS.out hnb hnb, HpS.out, hnb⟩
        have hview : viewP Lk = (L.map (·.d)).zip Es := by
          have h1 := HR.out.es
          rw [List.take_of_length_le (by omega)] at h1
          rw [viewP_zip, HR.out.dE, HdE.out, h1]
        have hpost := hid (show SLoadIs w S p L bs (.returned (.int .i64 0)) (wr.setCell ⟨p, 0, none⟩ (.slice A' k c')) from
          ⟨(Kept2.of_ext HR.out.ext).trans hkp, .inl ⟨Es, Lk, S1, by unfold ldAll; rw [hall]; rfl, rfl, hSet, hview, fun j hj => ⟨(HSup.out j hj).1, Nat.lt_of_lt_of_le (HR.out.lt j hj) hkp.size⟩, HSS.out, ⟨A', c', hcl, hrow2⟩, fun j hj => (HR.out.blk j hj).1⟩⟩)
        clear hSet hkp hcw hc0 hnb hrow2 hcl hview hall q1
        go_wp2
        go_ret
        exact hpost.out
end Go.Proofs.YtakebdeldndaaaaGreatDoor
