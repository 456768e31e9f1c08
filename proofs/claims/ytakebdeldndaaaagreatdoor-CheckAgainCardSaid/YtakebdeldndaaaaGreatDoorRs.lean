/- Several texts of this claim's, one behind the other. -/
import Derived.Test.YtakebdeldndaaaaGreatDoorPj
import Derived.Test.YtakebdeldndaaaaGreatDoorRq
import Derived.Test.YtakebdeldndaaaaGreatDoorPjNew
import Derived.Test.YtakebdeldndaaaaGreatDoorRn
import Derived.Test.YtakebdeldndaaaaGreatDoorFound
import Derived.Test.YtakebdeldndaaaaGreatDoorNorms
import Derived.Test.YtakebdeldndaaaaGreatDoorPjClone
import Derived.Test.YtakebdeldndaaaaGreatDoorPja
import Derived.Test.YtakebdeldndaaaaGreatDoorPlMath
/- Rows of the reference's states. (Printed by tools/gen_rset.py out of XPc.) -/
namespace Go.Proofs.YtakebdeldndaaaaGreatDoor
open Go Go.RowKit
set_option linter.unusedSimpArgs false
set_option linter.unusedVariables false

structure RefS (w : World) (S : Nat → Prop) (s m : Nat) (d : DefV) (D : Ents) : Prop where
  st : RefSt w S s d D
  eq : m = s
section
variable {w w' : World} {S S' : Nat → Prop} {s m a b : Nat} {d : DefV} {D : Ents}
theorem RefS.sIn (h : RefS w S s m d D) : S s := h.st.yIn
theorem RefS.mIn (h : RefS w S s m d D) : S m := by rw [h.eq]; exact h.st.yIn
theorem RefS.lt (h : RefS w S s m d D) : s < w.heap.size ∧ m < w.heap.size := ⟨h.st.lt, by rw [h.eq]; exact h.st.lt⟩
theorem RefS.ext (h : RefS w S s m d D) (hE : Ext w w') : RefS w' S s m d D := ⟨h.st.ext hE, h.eq⟩
theorem RefS.more (h : RefS w S s m d D) (hE : Ext w w') (hS : ∀ k, S' k → S k ∨ w.heap.size ≤ k) (hs : S' s) (hm : S' m) : RefS w' S' s m d D := ⟨h.st.more hE hS hs, h.eq⟩
theorem RefS.less (h : RefS w S s m d D) (hS : ∀ k, S' k → S k) (hs : S' s) (hm : S' m) : RefS w S' s m d D := by
  obtain ⟨A, c, B, n, b, h1, h2, h3⟩ := h.st.box
  exact ⟨⟨⟨A, c, B, n, b, h1, h2.mono fun k hk => ⟨hk.1, fun h' => hk.2 (hS k h')⟩, h3.mono fun k hk => ⟨hk.1, fun h' => hk.2 (hS k h')⟩⟩, hs⟩, h.eq⟩
theorem RefS.kept (h : RefS w S s m d D) (hk : Kept2 a b w w') (ha : S a) (hb : S b) (h1 : s ≠ a) (h2 : s ≠ b) (h3 : m ≠ a) (h4 : m ≠ b) : RefS w' S s m d D := ⟨h.st.kept hk ha hb h1 h2, h.eq⟩
end
structure ScsIs (w : World) (S : Nat → Prop) (L : List Pc) : Prop where
  each : ∀ x ∈ L, RefS w S x.s x.m x.d x.D
  apart : L.Pairwise fun x y => Apart x.s x.m y.s y.m
section
variable {w w' : World} {S S' : Nat → Prop} {L : List Pc}
theorem ScsIs.nil : ScsIs w S [] := ⟨fun x hx => by simp at hx, List.Pairwise.nil⟩
theorem ScsIs.ext (h : ScsIs w S L) (hE : Ext w w') : ScsIs w' S L := ⟨fun x hx => (h.each x hx).ext hE, h.apart⟩
theorem ScsIs.more (h : ScsIs w S L) (hE : Ext w w') (hS : ∀ k, S' k → S k ∨ w.heap.size ≤ k) (hS2 : ∀ k, S k → S' k) : ScsIs w' S' L :=
  ⟨fun x hx => (h.each x hx).more hE hS (hS2 _ (h.each x hx).sIn) (hS2 _ (h.each x hx).mIn), h.apart⟩
theorem ScsIs.lt (h : ScsIs w S L) {k : Nat} (hk : Blk L k) : k < w.heap.size ∧ S k := by
  obtain ⟨x, hx, h2⟩ := hk
  have h1 := h.each x hx
  rcases h2 with rfl | rfl
  · exact ⟨h1.lt.1, h1.sIn⟩
  · exact ⟨h1.lt.2, h1.mIn⟩
theorem ScsIs.less (h : ScsIs w S L) (hS : ∀ k, S' k → S k) (hb : ∀ k, Blk L k → S' k) : ScsIs w S' L :=
  ⟨fun x hx => (h.each x hx).less hS (hb _ ⟨x, hx, .inl rfl⟩) (hb _ ⟨x, hx, .inr rfl⟩), h.apart⟩
theorem ScsIs.kept {a b : Nat} (h : ScsIs w S L) (hk : Kept2 a b w w') (ha : S a) (hb : S b) (h1 : ¬ Blk L a) (h2 : ¬ Blk L b) : ScsIs w' S L :=
  ⟨fun x hx => (h.each x hx).kept hk ha hb (fun e => h1 ⟨x, hx, .inl e.symm⟩) (fun e => h2 ⟨x, hx, .inl e.symm⟩) (fun e => h1 ⟨x, hx, .inr e.symm⟩) (fun e => h2 ⟨x, hx, .inr e.symm⟩), h.apart⟩
theorem ScsIs.snoc {x : Pc} (h : ScsIs w S L) (hx : RefS w S x.s x.m x.d x.D) (hs : ¬ Blk L x.s) (hm : ¬ Blk L x.m) : ScsIs w S (L ++ [x]) := by
  refine ⟨fun y hy => ?_, List.pairwise_append.2 ⟨h.apart, List.pairwise_singleton _ _, fun y hy z hz => ?_⟩⟩
  · rcases List.mem_append.1 hy with hy | hy
    · exact h.each y hy
    · simp at hy; subst hy; exact hx
  · simp at hz; subst hz
    exact ⟨fun e => hs ⟨y, hy, .inl e.symm⟩, fun e => hm ⟨y, hy, .inl e.symm⟩, fun e => hs ⟨y, hy, .inr e.symm⟩, fun e => hm ⟨y, hy, .inr e.symm⟩⟩
theorem ScsIs.step (h : ScsIs w S L) {i : Nat} (hi : i < L.length) {D' : Ents} (hS : RefS w' S L[i].s L[i].m L[i].d D') (hk : Kept2 L[i].s L[i].m w w') : ScsIs w' S (putD L i D') := by
  rw [putD_at hi]
  have hx := h.each _ (List.getElem_mem hi)
  refine ⟨fun y hy => ?_, ?_⟩
  · obtain ⟨j, hj, rfl⟩ := List.getElem_of_mem hy
    rw [List.length_set] at hj
    rw [List.getElem_set]
    split
    · exact hS
    · rename_i e
      have ha := apart_get h.apart hj hi (fun e' => e e'.symm)
      exact (h.each _ (List.getElem_mem hj)).kept hk hx.sIn hx.mIn ha.1 ha.2.1 ha.2.2.1 ha.2.2.2
  · rw [List.pairwise_iff_getElem]
    intro a b ha hb hab
    rw [List.length_set] at ha hb
    rw [List.getElem_set, List.getElem_set]
    have := List.pairwise_iff_getElem.1 h.apart a b ha hb hab
    split
    · rename_i e; subst e
      split
      · rename_i e; omega
      · exact this
    · split
      · rename_i e; subst e; exact this
      · exact this
end
end Go.Proofs.YtakebdeldndaaaaGreatDoor

/- The reference's set in memory. (Printed by tools/gen_rset.py out of XSet.) -/
namespace Go.Proofs.YtakebdeldndaaaaGreatDoor
open Go Go.RowKit
set_option linter.unusedSimpArgs false
set_option linter.unusedVariables false

structure RSetIs (w : World) (S : Nat → Prop) (p : Nat) (L : List Pc) : Prop where
  row : ∃ A c, w.heap[p]? = some (.cells #[.slice A L.length c] 153) ∧ SlR Rep.ptr w (Free L p w) A L.length c (L.map (·.s))
  pcs : ScsIs w S L
  pIn : S p
  pFree : ¬ Blk L p
section
variable {w w' : World} {S S' : Nat → Prop} {p : Nat} {L : List Pc}
theorem RSetIs.lt (h : RSetIs w S p L) : p < w.heap.size := by
  obtain ⟨A, c, h1, -⟩ := h.row
  exact (Array.getElem?_eq_some_iff.1 h1).1
theorem RSetIs.more (h : RSetIs w S p L) (hE : Ext w w') (hS : ∀ k, S' k → S k ∨ w.heap.size ≤ k) (hS2 : ∀ k, S k → S' k) : RSetIs w' S' p L := by
  obtain ⟨A, c, h1, h2⟩ := h.row
  exact ⟨⟨A, c, (hE.block p h.lt).trans h1, (h2.ext fun k hk => hE.block k hk.1).mono fun k hk => ⟨Nat.lt_of_lt_of_le hk.1 hE.size, hk.2⟩⟩, h.pcs.more hE hS hS2, hS2 _ h.pIn, h.pFree⟩
theorem RSetIs.ext (h : RSetIs w S p L) (hE : Ext w w') : RSetIs w' S p L := h.more hE (fun _ hk => .inl hk) fun _ hk => hk
theorem RSetIs.step (h : RSetIs w S p L) {i : Nat} (hi : i < L.length) {D' : Ents} (hS : RefS w' S L[i].s L[i].m L[i].d D') (hk : Kept2 L[i].s L[i].m w w') : RSetIs w' S p (putD L i D') := by
  obtain ⟨A, c, h1, h2⟩ := h.row
  have hx := h.pcs.each _ (List.getElem_mem hi)
  have ha : Blk L L[i].s := ⟨_, List.getElem_mem hi, .inl rfl⟩
  have hb : Blk L L[i].m := ⟨_, List.getElem_mem hi, .inr rfl⟩
  refine ⟨⟨A, c, ?_, ?_⟩, h.pcs.step hi hS hk, h.pIn, fun hp => h.pFree (putD_blk.1 hp)⟩
  · rw [length_putD]
    exact (hk.block p h.lt (fun e => h.pFree (e ▸ ha)) (fun e => h.pFree (e ▸ hb))).trans h1
  · rw [length_putD, putD_s]
    refine (h2.ext fun k hk' => hk.block k hk'.1 (fun e => hk'.2.2 (e ▸ ha)) (fun e => hk'.2.2 (e ▸ hb))).mono fun k hk' => ⟨Nat.lt_of_lt_of_le hk'.1 hk.size, hk'.2.1, fun hb => hk'.2.2 (putD_blk.1 hb)⟩
theorem RSetIs.kept {a b : Nat} (h : RSetIs w S p L) (hk : Kept2 a b w w') (ha : S a) (hb : S b) (h1 : ¬ Blk L a ∧ a ≠ p) (h2 : ¬ Blk L b ∧ b ≠ p) (hr : ∀ A c, w.heap[p]? = some (.cells #[.slice A L.length c] 153) → SlR Rep.ptr w (fun k => Free L p w k ∧ k ≠ a ∧ k ≠ b) A L.length c (L.map (·.s))) : RSetIs w' S p L := by
  obtain ⟨A, c, g1, g2⟩ := h.row
  refine ⟨⟨A, c, (hk.block p h.lt (fun e => h1.2 e.symm) (fun e => h2.2 e.symm)).trans g1, ?_⟩, h.pcs.kept hk ha hb h1.1 h2.1, h.pIn, h.pFree⟩
  exact ((hr A c g1).ext fun k hk' => hk.block k hk'.1.1 hk'.2.1 hk'.2.2).mono fun k hk' => ⟨Nat.lt_of_lt_of_le hk'.1.1 hk.size, hk'.1.2⟩
theorem RSetIs.less (h : RSetIs w S p L) (hS : ∀ k, S' k → S k) (hb : ∀ k, Blk L k → S' k) (hp : S' p) : RSetIs w S' p L := ⟨h.row, h.pcs.less hS hb, hp, h.pFree⟩
structure SRowLo (w : World) (n p : Nat) (L : List Pc) : Prop where
  row : ∃ A c, w.heap[p]? = some (.cells #[.slice A L.length c] 153) ∧ SlR Rep.ptr w (fun k => Free L p w k ∧ n ≤ k) A L.length c (L.map (·.s))
theorem SRowLo.ext {n : Nat} (h : SRowLo w n p L) (hE : Ext w w') : SRowLo w' n p L := by
  obtain ⟨A, c, h1, h2⟩ := h.row
  exact ⟨A, c, (hE.block p (Array.getElem?_eq_some_iff.1 h1).1).trans h1, (h2.ext fun k hk => hE.block k hk.1.1).mono fun k hk => ⟨⟨Nat.lt_of_lt_of_le hk.1.1 hE.size, hk.1.2⟩, hk.2⟩⟩
theorem SRowLo.down {n n' : Nat} (h : SRowLo w n p L) (hn : n' ≤ n) : SRowLo w n' p L := by
  obtain ⟨A, c, h1, h2⟩ := h.row
  exact ⟨A, c, h1, h2.mono fun k hk => ⟨hk.1, Nat.le_trans hn hk.2⟩⟩
end
end Go.Proofs.YtakebdeldndaaaaGreatDoor

/- The reference's set while it is made. (Printed by tools/gen_rset.py out of XPjNew.) -/
namespace Go.Proofs.YtakebdeldndaaaaGreatDoor
open Go Go.RowKit
set_option linter.unusedSimpArgs false
set_option linter.unusedVariables false

theorem sptrinfo : SlInfo Tryz.prog 151 154 (.pointer none) Rep.ptr.size 8 := ⟨Tryz.underlying151, by kernel_rfl, rfl, by decide⟩
structure SNewIs (X : Nat → Prop) (n0 p : Nat) (V : List (DefV × Ents)) (v : Value) (L : List Pc) (wr : World) : Prop where
  cell : wr.heap[p]? = some (.cells #[v] 153)
  own : OwnK Rep.ptr 154 (fun _ => False) wr n0 v (L.map (·.s))
  pcs : ScsIs wr (NewS X p v L) L
  view : viewP L = V
  lo : (∀ k, Blk L k → n0 ≤ k) ∧ n0 ≤ p
  xlo : ∀ k, X k → k < n0
  free : ¬ Blk L p ∧ (∀ k, v.ownBlock = some k → ¬ Blk L k ∧ k ≠ p)
section
variable {X : Nat → Prop} {n0 p : Nat} {V : List (DefV × Ents)} {v v' : Value} {L : List Pc} {w w' : World}
theorem SNewIs.ownLt (h : SNewIs X n0 p V v L w) (k : Nat) (hk : v.ownBlock = some k) : n0 ≤ k ∧ k < w.heap.size := by
  obtain ⟨cs, ho, -⟩ := h.own
  exact World.ownsRow.lt ho k hk
theorem SNewIs.pLt (h : SNewIs X n0 p V v L w) : p < w.heap.size := (Array.getElem?_eq_some_iff.1 h.cell).1
theorem SNewIs.lt (h : SNewIs X n0 p V v L w) (k : Nat) (hk : NewS (fun _ => False) p v L k) : n0 ≤ k ∧ k < w.heap.size := by
  rcases hk with rfl | hk | hk | hk
  · exact ⟨h.lo.2, h.pLt⟩
  · exact h.ownLt k hk
  · exact ⟨h.lo.1 k hk, (h.pcs.lt hk).1⟩
  · exact hk.elim
theorem SNewIs.ext (h : SNewIs X n0 p V v L w) (hE : Ext w w') : SNewIs X n0 p V v L w' :=
  ⟨(hE.block p h.pLt).trans h.cell, h.own.ext hE fun _ hk => hk.elim, h.pcs.ext hE, h.view, h.lo, h.xlo, h.free⟩
structure SPreIs (X : Nat → Prop) (n0 p : Nat) (V : List (DefV × Ents)) (v : Value) (L : List Pc) (wr : World) : Prop where
  own : OwnK Rep.ptr 154 (fun _ => False) wr n0 v (L.map (·.s))
  pcs : ScsIs wr (NewS X p v L) L
  view : viewP L = V
  lo : (∀ k, Blk L k → n0 ≤ k) ∧ n0 ≤ p ∧ p < wr.heap.size
  xlo : ∀ k, X k → k < n0
  free : ¬ Blk L p ∧ (∀ k, v.ownBlock = some k → ¬ Blk L k ∧ k ≠ p)
theorem SPreIs.ext (h : SPreIs X n0 p V v L w) (hE : Ext w w') : SPreIs X n0 p V v L w' :=
  ⟨h.own.ext hE fun _ hk => hk.elim, h.pcs.ext hE, h.view, ⟨h.lo.1, h.lo.2.1, Nat.lt_of_lt_of_le h.lo.2.2 hE.size⟩, h.xlo, h.free⟩
theorem SPreIs.kept (h : SPreIs X n0 p V v L w) (hk : Kept2 p p w w') : SPreIs X n0 p V v L w' :=
  ⟨h.own.kept (row := some p) ⟨hk.os, hk.tape, hk.output, hk.size, fun k hk' hne => hk.block k hk' (fun e => hne (by rw [e])) (fun e => hne (by rw [e]))⟩ (.inr fun e => (h.free.2 p e).2 rfl) fun k hk => hk.elim,
   h.pcs.kept hk (.inl rfl) (.inl rfl) h.free.1 h.free.1, h.view, ⟨h.lo.1, h.lo.2.1, Nat.lt_of_lt_of_le h.lo.2.2 hk.size⟩, h.xlo, h.free⟩
theorem SPreIs.store (h : SPreIs X n0 p V v' L w) (hc : w.heap[p]? = some (.cells #[v] 153)) : SNewIs X n0 p V v' L (w.setCell ⟨p, 0, none⟩ v') := by
  have hkp : Kept2 p p w (w.setCell ⟨p, 0, none⟩ v') := ⟨rfl, rfl, rfl, by simp, fun k hk h1 _ => heap_setCell_other w ⟨p, 0, none⟩ k _ (fun e => h1 e)⟩
  have h2 := h.kept hkp
  exact ⟨heap_setCell_row hc _, h2.own, h2.pcs, h2.view, ⟨h2.lo.1, h2.lo.2.1⟩, h2.xlo, h2.free⟩
theorem SNewIs.pre {x : Pc} {w2 w3 : World} (h : SNewIs X n0 p V v L w) (hE : Ext w w2) (hx : w.heap.size ≤ x.s ∧ w.heap.size ≤ x.m) (hxl : x.s < w2.heap.size ∧ x.m < w2.heap.size)
    (hN : ∀ S' : Nat → Prop, (∀ k, S' k → X k ∨ (n0 ≤ k ∧ k < w.heap.size) ∨ k = x.s ∨ k = x.m) → S' x.s → S' x.m → RefS w2 S' x.s x.m x.d x.D)
    (ho : OwnK Rep.ptr 154 (fun _ => False) w3 n0 v' (L.map (·.s) ++ [x.s])) (hg : w2.grownBy w3 v.ownBlock) (hat : v'.ownBlock = v.ownBlock ∨ v'.ownBlock = some w2.heap.size) :
    SPreIs X n0 p (V ++ [(x.d, x.D)]) v' (L ++ [x]) w3 ∧ w3.heap[p]? = some (.cells #[v] 153) := by
  have hpl := h.pLt
  have hsz := hE.size
  have hg3 := hg.size
  have hlow : n0 ≤ w.heap.size := Nat.le_trans h.lo.2 (Nat.le_of_lt hpl)
  have hns : ¬ Blk L x.s := fun hb => by have := (h.pcs.lt hb).1; omega
  have hnm : ¬ Blk L x.m := fun hb => by have := (h.pcs.lt hb).1; omega
  have hfp : ¬ Blk (L ++ [x]) p := fun hb => by
    rcases Blk.snoc.1 hb with hb | hb | hb
    · exact h.free.1 hb
    · omega
    · omega
  -- with the new state, in w2
  have h1 : ScsIs w2 (NewS X p v (L ++ [x])) (L ++ [x]) := by
    refine (h.pcs.more hE (fun k hk => ?_) fun k hk => ?_).snoc (hN _ (fun k hk => ?_) (.inr (.inr (.inl (Blk.snoc.2 (.inr (.inl rfl)))))) (.inr (.inr (.inl (Blk.snoc.2 (.inr (.inr rfl))))))) hns hnm
    · rcases hk with hk | hk | hk | hk
      · exact .inl (.inl hk)
      · exact .inl (.inr (.inl hk))
      · rcases Blk.snoc.1 hk with hk | hk | hk
        · exact .inl (.inr (.inr (.inl hk)))
        · right; omega
        · right; omega
      · exact .inl (.inr (.inr (.inr hk)))
    · rcases hk with hk | hk | hk | hk
      · exact .inl hk
      · exact .inr (.inl hk)
      · exact .inr (.inr (.inl (Blk.snoc.2 (.inl hk))))
      · exact .inr (.inr (.inr hk))
    · rcases hk with rfl | hk | hk | hk
      · exact .inr (.inl ⟨h.lo.2, hpl⟩)
      · exact .inr (.inl (h.ownLt k hk))
      · rcases Blk.snoc.1 hk with hk | hk | hk
        · exact .inr (.inl ⟨h.lo.1 k hk, (h.pcs.lt hk).1⟩)
        · exact .inr (.inr (.inl hk))
        · exact .inr (.inr (.inr hk))
      · exact .inl hk
  have hfo : ∀ k, v.ownBlock = some k → ¬ Blk (L ++ [x]) k ∧ k ≠ p := fun k hk => by
    have h2 := h.free.2 k hk
    have h3 := h.ownLt k hk
    refine ⟨fun hb => ?_, h2.2⟩
    rcases Blk.snoc.1 hb with hb | hb | hb
    · exact h2.1 hb
    · omega
    · omega
  -- behind the append
  have h2 : ScsIs w3 (NewS X p v (L ++ [x])) (L ++ [x]) := by
    cases hb : v.ownBlock with
    | none =>
      rw [hb] at hg
      exact h1.ext ⟨hg.os, hg.tape, hg.output, hg.size, fun k hk => hg.block k hk (by simp)⟩
    | some g =>
      rw [hb] at hg
      have hk : Kept2 g g w2 w3 := Kept2.of_grown hg (.inl rfl)
      exact h1.kept hk (.inr (.inl hb)) (.inr (.inl hb)) (hfo g hb).1 (hfo g hb).1
  have hfo' : ∀ k, v'.ownBlock = some k → ¬ Blk (L ++ [x]) k ∧ k ≠ p := fun k hk => by
    rcases hat with e | e
    · rw [e] at hk; exact hfo k hk
    · rw [e] at hk
      obtain rfl := Option.some.inj hk
      exact ⟨fun hb => by have := (h1.lt hb).1; omega, by omega⟩
  have hown' : ∀ k, v'.ownBlock = some k → k < w3.heap.size := fun k hk => by
    obtain ⟨cs, ho', -⟩ := ho
    exact (World.ownsRow.lt ho' k hk).2
  -- the row's block may be another
  have h3 : ScsIs w3 (NewS X p v' (L ++ [x])) (L ++ [x]) := by
    have hb2 : ∀ k, NewS X p v' (L ++ [x]) k → NewS X p v (L ++ [x]) k ∨ w2.heap.size ≤ k := fun k hk => by
      rcases hk with hk | hk | hk | hk
      · exact .inl (.inl hk)
      · rcases hat with e | e
        · rw [e] at hk; exact .inl (.inr (.inl hk))
        · rw [e] at hk; obtain rfl := Option.some.inj hk; right; exact Nat.le_refl _
      · exact .inl (.inr (.inr (.inl hk)))
      · exact .inl (.inr (.inr (.inr hk)))
    -- from w2, where the other block is new
    have h1' : ScsIs w2 (fun k => NewS X p v (L ++ [x]) k ∨ NewS X p v' (L ++ [x]) k) (L ++ [x]) := h1.more (Below.refl _ _) (fun k hk => hk.elim .inl (hb2 k)) fun k hk => .inl hk
    have h2' : ScsIs w3 (fun k => NewS X p v (L ++ [x]) k ∨ NewS X p v' (L ++ [x]) k) (L ++ [x]) := by
      cases hb : v.ownBlock with
      | none =>
        rw [hb] at hg
        exact h1'.ext ⟨hg.os, hg.tape, hg.output, hg.size, fun k hk => hg.block k hk (by simp)⟩
      | some g =>
        rw [hb] at hg
        exact h1'.kept (Kept2.of_grown hg (.inl rfl) : Kept2 g g w2 w3) (.inl (.inr (.inl hb))) (.inl (.inr (.inl hb))) (hfo g hb).1 (hfo g hb).1
    exact h2'.less (fun k hk => .inr hk) fun k hk => .inr (.inr (.inl hk))
  have hcell3 : w3.heap[p]? = some (.cells #[v] 153) := by
    rw [hg.block p (by omega) fun e => (h.free.2 p e.symm).2 rfl, hE.block p hpl, h.cell]
  refine ⟨⟨by rw [List.map_append]; exact ho, h3, by unfold viewP; rw [List.map_append, ← h.view]; rfl, ⟨fun k hk => ?_, h.lo.2, by omega⟩, h.xlo, hfp, hfo'⟩, hcell3⟩
  rcases Blk.snoc.1 hk with hk | hk | hk
  · exact h.lo.1 k hk
  · omega
  · omega
end
theorem SNewIs.rowLo {X : Nat → Prop} {n0 p : Nat} {V : List (DefV × Ents)} {v : Value} {L : List Pc} {w : World} (h : SNewIs X n0 p V v L w) : ∃ A c, w.heap[p]? = some (.cells #[.slice A L.length c] 153) ∧ SlR Rep.ptr w (fun k => Free L p w k ∧ n0 ≤ k) A L.length c (L.map (·.s)) := by
  obtain ⟨A, c, cs, e, hc, hm, hr, hv⟩ := h.own.read
  have hl : (L.map (·.s)).length = L.length := List.length_map ..
  have hS : SlR Rep.ptr w (fun k => Free L p w k ∧ n0 ≤ k) A (L.map (·.s)).length c (L.map (·.s)) := by
    refine ⟨rfl, hc, hm, cs, hr.mono fun _ h => h.elim, ?_⟩
    rcases hv with h' | ⟨b, o, e', h'⟩
    · exact .inl h'
    · by_cases h0 : (L.map (·.s)).length = 0
      · left
        have := hr.len
        rw [h0, Nat.zero_mul] at this
        exact List.eq_nil_of_length_eq_zero this
      · have hb : v.ownBlock = some b := by rw [e, e']; rfl
        have := h.free.2 b hb
        exact .inr ⟨b, o, e', ⟨⟨(h.ownLt b hb).2, this.2, this.1⟩, (h.ownLt b hb).1⟩, h'⟩
  rw [hl] at hS e
  exact ⟨A, c, by rw [← e]; exact h.cell, hS⟩
theorem SNewIs.done {X : Nat → Prop} {n0 p : Nat} {V : List (DefV × Ents)} {v : Value} {L : List Pc} {w : World} (h : SNewIs X n0 p V v L w) : RSetIs w (NewS X p v L) p L := by
  obtain ⟨A, c, h1, h2⟩ := h.rowLo
  exact ⟨⟨A, c, h1, h2.mono fun k hk => hk.1⟩, h.pcs, .inl rfl, h.free.1⟩
end Go.Proofs.YtakebdeldndaaaaGreatDoor

/- registrarref16.New. -/
namespace Go.Proofs.YtakebdeldndaaaaGreatDoor
open Go Go.RowKit
set_option linter.unusedSimpArgs false
set_option linter.unusedVariables false

theorem SNewIs.snocR {X : Nat → Prop} {n1 n0 p : Nat} {V : List (DefV × Ents)} {v v' : Value} {L : List Pc} {w w2 w3 : World} {y : Nat} {d : DefV} {D : Ents} (h : SNewIs X n0 p V v L w) (hE : Ext w w2) (hx : w.heap.size ≤ y) (hX : ∀ k, X k → n1 ≤ k) (hn : n1 ≤ n0) (hN : ∀ S' : Nat → Prop, (∀ k, S' k → n1 ≤ k) → S' y → RefSt w2 S' y d D)
    (ho : OwnK Rep.ptr 154 (fun _ => False) w3 n0 v' (L.map (·.s) ++ [y])) (hg : w2.grownBy w3 v.ownBlock) (hat : v'.ownBlock = v.ownBlock ∨ v'.ownBlock = some w2.heap.size) :
    SNewIs X n0 p (V ++ [(d, D)]) v' (L ++ [⟨y, y, d, D⟩]) (w3.setCell ⟨p, 0, none⟩ v') := by
  have h0 := h.lo.2
  have h1 := h.pLt
  have hlt : y < w2.heap.size := (hN (fun k => k = y) (fun k hk => by omega) rfl).lt
  have h2 := h.pre (x := ⟨y, y, d, D⟩) hE ⟨hx, hx⟩ ⟨hlt, hlt⟩ (fun S' hS h1 h2 => ⟨hN S' (fun k hk => by
    rcases hS k hk with h3 | h3 | h3 | h3
    · exact hX k h3
    · omega
    · dsimp only at h3; omega
    · dsimp only at h3; omega) h1, rfl⟩) ho hg hat
  exact h2.1.store h2.2
structure SMade (w : World) (n1 : Nat) (xs : List DefV) (e : Ending) (w' : World) : Prop where
  ext : Ext w w'
  ans : (defsE xs ≠ 0 ∧ e = .returned (.tuple #[.pointer none, .int .i64 (defsE xs)])) ∨
    (defsE xs = 0 ∧ ∃ p L S, e = .returned (.tuple #[.pointer (some ⟨p, 0, none⟩), .int .i64 0]) ∧ RSetIs w' S p L ∧ viewP L = xs.map (fun d => (d, [])) ∧ SRowLo w' w.heap.size p L ∧ (∀ k, n1 ≤ k → k < w.heap.size → S k) ∧ (∀ k, S k → n1 ≤ k) ∧ (∀ k, Blk L k ∨ k = p → w.heap.size ≤ k ∧ k < w'.heap.size))
set_option maxRecDepth 100000 in
set_option maxHeartbeats 4000000 in
theorem refSetNew_at {w : World} {n1 : Nat} {A : Option Addr} {n c : Nat} {xs : List DefV} (hx : SlR RDef w (· < n1) A n c xs) (hn1 : n1 ≤ w.heap.size) :
    Calls Tryz.prog 53 #[.slice A n c] w fun e w' => SMade w n1 xs e w' := by
  have hn := hid hx.1
  have hnc := hx.2.1
  have hcm := hx.2.2.1
  have HX := hid hx
  have hpd := refPutDefs_at (hx.mono fun k hk => Nat.lt_of_lt_of_le hk hn1)
  clear hx
  go_enter Tryz.func53, Tryz.ntmps53
  go_wp2_with fail
  refine hpd.mono ?_
  clear hpd
  rintro e w1 ⟨v0, rfl, -, hE⟩
  have HE1 := hid hE
  clear hE
  by_cases h0 : defsE xs = 0
  rotate_left
  · have hpost := hid (fun W (hE : Ext w W) => (⟨hE, .inl ⟨h0, rfl⟩⟩ : SMade w n1 xs (.returned (.tuple #[.pointer none, .int .i64 (defsE xs)])) W))
    have hx : (defsE xs != 0) = true := by simpa using h0
    have hx2 : (defsE xs == 0) = false := by simpa using h0
    clear h0
    go_wp2
    go_ret2
    exact hpost.out _ HE1.out
  rw [h0]
  obtain ⟨h4, hall⟩ := defsE_zero h0
  have H0 := hid h0
  have Hall := hid hall
  have hn4 : n ≤ 4 := by have := hn.out; omega
  clear h0 h4 hall
  have hE2 := ext_alloc w1 (.cells #[.slice none 0 0] 153)
  have HE2 := hid (HE1.out.trans' hE2)
  have hs1 := HE1.out.size
  have HI := hid (show SNewIs (fun k => n1 ≤ k ∧ k < w.heap.size) w.heap.size w1.heap.size ((xs.take 0).map fun d => (d, [])) (.slice none 0 0) [] (w1.alloc (.cells #[.slice none 0 0] 153)) from
    ⟨heap_alloc_last _ _, OwnK.nil _ _, ScsIs.nil, rfl, ⟨fun k hk => (Blk.nil hk).elim, hs1⟩, fun k hk => hk.2, Blk.nil, fun k hk => by cases hk⟩)
  clear hE2 hs1
  go_wp2_with fail
  generalize w1.heap.size = p at *
  generalize w1.alloc (.cells #[.slice none 0 0] 153) = w2 at *
  go_loopw [7] (fun i wr => ∃ k : Nat, k ≤ n ∧ i = .int .i64 (k : Int) ∧ Hid (∃ v L, SNewIs (fun k => n1 ≤ k ∧ k < w.heap.size) w.heap.size p ((xs.take k).map fun d => (d, [])) v L wr) ∧ Hid (Ext w wr)) (fun i _ => n - (intOf i).toNat)
  case atStart => exact ⟨0, by omega, rfl, ⟨_, _, HI.out⟩, HE2⟩
  case round =>
    obtain ⟨k, hk, rfl, HI', HE⟩ := hrel
    clear HI
    obtain ⟨v, L, hI⟩ := HI'.out
    have HI := hid hI
    clear hI HI'
    by_cases hlt : k < n
    · have hkx : k < xs.length := by have := hn.out; omega
      have hlt' : (k : Int) < (n : Int) := by omega
      have hk00 : ¬ ((k : Int) < 0) := by omega
      have hk0 : (0 : Int) ≤ (k : Int) := by omega
      obtain ⟨b, o, B1, d1, rfl, -, f0, f1, f2, -, hq⟩ := def_at (HX.out.ext fun j hj => HE.out.block j (Nat.lt_of_lt_of_le hj hn1)) k hkx
      have hmay := Hall.out _ (List.getElem_mem hkx)
      have Hts := hid (show (xs.take (k + 1)).map (fun d => (d, ([] : Ents))) = (xs.take k).map (fun d => (d, [])) ++ [(xs[k], [])] by rw [List.take_succ_eq_append_getElem hkx, List.map_append]; rfl)
      have hcc := refNew_at (d := xs[k]) hq (Nat.le_trans hn1 HE.out.size)
      unfold defVal at hcc
      clear hq
      generalize xs[k] = t at *
      generalize t.q.length = ql at *
      go_wp2_with fail
      clear f0 f1 f2
      refine hcc.mono ?_
      clear hcc
      rintro e w3 ⟨hE3, hres⟩
      rcases hres with ⟨h, -⟩ | ⟨-, s, rfl, hs, hN⟩
      · exact absurd hmay h
      have HN := hid hN; have HE3 := hid hE3
      have HIc := hid (HI.out.ext hE3)
      have hcell : w3.cell? ⟨p, 0, none⟩ = some v := by rw [cell_of_row _ _ _ _ _ _ HIc.out.cell]; rfl
      have hfz : w3.frozen? ⟨p, 0, none⟩ = false := by have := HIc.out.cell; simp [World.frozen?, this]
      have HEw := hid (HE.out.trans' hE3)
      clear hN hE3 hmay
      have hE4 := ext_alloc w3 (.cells #[.pointer (some ⟨s, 0, none⟩)] 154)
      have Hbox := hid (show ∃ cs, Rows Rep.ptr (w3.alloc (.cells #[.pointer (some ⟨s, 0, none⟩)] 154)) (fun _ => False) [s] cs ∧ RV (w3.alloc (.cells #[.pointer (some ⟨s, 0, none⟩)] 154)) (some ⟨w3.heap.size, 0, none⟩) cs from ⟨_, Rows.single rfl, RV.box w3 _ _⟩)
      have HIx := hid (HIc.out.ext hE4)
      have HNx := hid (show ∀ S' : Nat → Prop, (∀ k, S' k → n1 ≤ k) → S' s → RefSt (w3.alloc (.cells #[.pointer (some ⟨s, 0, none⟩)] 154)) S' s t [] from fun S' h1 h2 => (HN.out S' h1 h2).ext hE4)
      have HEx := hid ((HE3.out).trans' hE4)
      have HEy := hid (HEw.out.trans' hE4)
      have HOx := hid HIx.out.own
      have hlx : (L.map (·.s)).length ≤ 4 := by
        have := congrArg List.length HIx.out.view
        unfold viewP at this
        rw [List.length_map, List.length_map, List.length_take] at this
        rw [List.length_map]; omega
      have hszx := HEw.out.size
      have hsm := hid hs
      clear hE4 hs HN HE3
      go_wp2_with (at_builtin; refine wpList_appK (w0 := w) (R := Rep.ptr) (xs := L.map (·.s)) (base := w.heap.size) sptrinfo rfl (.tmp 38) (.tmp 40) rfl rfl HOx (fun _ h => h.elim) HEy (by simp; omega) (some ⟨w3.heap.size, 0, none⟩) 1 1 [s] rfl rfl Hbox (by omega) (by omega) ?_; intro v2 W2 HA2 HB2 HG2; obtain ⟨A2, l2, c2, rfl⟩ : ∃ A l c, v2 = .slice A l c := (let ⟨A, c, _, e, _⟩ := HA2.out.read; ⟨A, _, c, e⟩); have HF2 := hid (HI.out.snocR (y := s) (d := t) (D := []) HEx.out hsm.out (fun _ h => h.1) hn1 HNx.out HA2.out HG2.out.grown HG2.out.at_); clear hcell hfz; have hcell : W2.cell? ⟨p, 0, none⟩ = some v := (by have hp := HIx.out.pLt; have hb := HG2.out.grown.block p hp (fun e => (HIx.out.free.2 p e.symm).2 rfl); rw [cell_of_row _ _ _ _ _ _ (hb.trans HIx.out.cell)]; rfl); have hfz : W2.frozen? ⟨p, 0, none⟩ = false := (by have hp := HIx.out.pLt; have hb := (HG2.out.grown.block p hp (fun e => (HIx.out.free.2 p e.symm).2 rfl)).trans HIx.out.cell; simp [World.frozen?, hb]))
      have HEz := hid (show Ext w (W2.setCell ⟨p, 0, none⟩ (.slice A2 l2 c2)) from HB2.out.setCell HIx.out.lo.2 _)
      go_roundw
      case rel => exact ⟨k + 1, by omega, by go_num, by rw [Hts.out]; exact ⟨_, _, HF2.out⟩, HEz⟩
      case measure => simp [intOf]; omega
    · obtain rfl : k = n := by omega
      have hlt' : ¬ ((k : Int) < (k : Int)) := by omega
      have hall : xs.take k = xs := List.take_of_length_le (by have := hn.out; omega)
      rw [hall] at HI
      have hpost := hid (show SMade w n1 xs (.returned (.tuple #[.pointer (some ⟨p, 0, none⟩), .int .i64 0])) wr from ⟨HE.out, .inr ⟨H0.out, p, L, _, rfl, HI.out.done, HI.out.view, ⟨HI.out.rowLo⟩, fun k h1 h2 => .inr (.inr (.inr ⟨h1, h2⟩)), fun k hk => by
        rcases hk with h | h | h | h
        · have := (HI.out.lt k (.inl h)).1; omega
        · have := (HI.out.lt k (.inr (.inl h))).1; omega
        · have := (HI.out.lt k (.inr (.inr (.inl h)))).1; omega
        · exact h.1, fun k hk => HI.out.lt k (hk.elim (fun h => .inr (.inr (.inl h))) .inl)⟩⟩)
      go_wp2
      go_ret2
      exact hpost.out
end Go.Proofs.YtakebdeldndaaaaGreatDoor

/- registrarref15.Clone. -/
namespace Go.Proofs.YtakebdeldndaaaaGreatDoor
open Go Go.RowKit
set_option linter.unusedSimpArgs false
set_option linter.unusedVariables false

theorem rows_ent {w w' : World} {K K' : Nat → Prop} : ∀ {xs : Ents} {cs : List Value}, Rows REnt w K xs cs → Rows REnt w' K' xs cs
  | [], _, h => h
  | x :: xs, _, ⟨c, r, e, hc, hr⟩ => ⟨c, r, e, hc, rows_ent hr⟩
def emX (base : Nat) : SPred := ⟨fun v w => ∃ g, v = .slice (some ⟨g, 0, none⟩) 0 0 ∧ OwnK REnt 150 (fun _ => False) w base v [], fun _ _ _ ⟨g, e, h⟩ hE => ⟨g, e, h.ext hE fun _ h => h.elim⟩⟩
def enX (base : Nat) (D : Ents) : SPred := ⟨fun v w => ∃ A c, v = .slice A D.length c ∧ SlR REnt w (fun k => k < w.heap.size ∧ ¬ k < base) A D.length c D, fun _ _ _ ⟨A, c, e, h⟩ hE => ⟨A, c, e, (h.ext fun k hk => hE.block k hk.1).mono fun k hk => ⟨Nat.lt_of_lt_of_le hk.1 hE.size, hk.2⟩⟩⟩
def bdX (base : Nat) (x y z : Value) (D : Ents) : SPred := ⟨fun v w => ∃ A c, v = .agg #[x, y, z, .slice A D.length c] ∧ SlR REnt w (fun k => k < w.heap.size ∧ ¬ k < base) A D.length c D, fun _ _ _ ⟨A, c, e, h⟩ hE => ⟨A, c, e, (h.ext fun k hk => hE.block k hk.1).mono fun k hk => ⟨Nat.lt_of_lt_of_le hk.1 hE.size, hk.2⟩⟩⟩
def bxX (base : Nat) (x y z : Value) (D : Ents) : SPred := ⟨fun v w => ∃ s A c, v = .pointer (some ⟨s, 0, none⟩) ∧ base ≤ s ∧ w.heap[s]? = some (.cells #[x, y, z, .slice A D.length c] 158) ∧ SlR REnt w (fun k => (k < w.heap.size ∧ ¬ k < base) ∧ k ≠ s) A D.length c D,
  fun _ _ _ ⟨s, A, c, e, h0, h1, h⟩ hE => ⟨s, A, c, e, h0, (hE.block s (Array.getElem?_eq_some_iff.1 h1).1).trans h1, (h.ext fun k hk => hE.block k hk.1.1).mono fun k hk => ⟨⟨Nat.lt_of_lt_of_le hk.1.1 hE.size, hk.1.2⟩, hk.2⟩⟩⟩
structure SClone (w : World) (S : Nat → Prop) (d : DefV) (D : Ents) (e : Ending) (w' : World) : Prop where
  ext : Ext w w'
  ex : ∃ y', e = .returned (.pointer (some ⟨y', 0, none⟩)) ∧ w.heap.size ≤ y' ∧ ∀ S' : Nat → Prop, (∀ k, S' k → (S k ∧ k < w.heap.size) ∨ k = y') → S' y' → RefSt w' S' y' d D
set_option maxRecDepth 100000 in
set_option maxHeartbeats 2000000 in
theorem refStClone_at {w : World} {S : Nat → Prop} {y : Nat} {d : DefV} {D : Ents} (h : RefSt w S y d D) (hD : D.length ≤ 999000) :
    Calls Tryz.prog 143 #[.pointer (some ⟨y, 0, none⟩)] w fun e w' => SClone w S d D e w' := by
  obtain ⟨A, c, B, m, b, h1, h2, h3⟩ := h.box
  have H2 := hid h2; have H3 := hid h3; have Hc := hid h1
  obtain rfl := h3.1
  clear h h1 h2 h3
  go_enter Tryz.func143, Tryz.ntmps143
  go_wp2_with fail
  apply wp_drawn [isV _, isV _, isV _, isV _, emX w.heap.size, isV _, isV _, isV _, isV _, enX w.heap.size D, bdX w.heap.size (.int .i64 d.kind) (.string (str d.field)) (.slice A d.q.length c) D, bxX w.heap.size (.int .i64 d.kind) (.string (str d.field)) (.slice A d.q.length c) D, bxX w.heap.size (.int .i64 d.kind) (.string (str d.field)) (.slice A d.q.length c) D] (by kernel_rfl)
  · kernel_rfl
  · refine ⟨?rcs0, ?rcs1, ?rcs2, ?rcs3, ?rcs4, ?rcs5, ?rcs6, ?rcs7, ?rcs8, ?rcs9, ?rcs10, ?rcs11, ?rcs12, trivial⟩
    case rcs0 =>
      intro v W hE hd; simp only [Region.wanted, ↓reduceIte]; (try simp [deps, waitsOn, Region.binds, knowing, isV, ownsV, anyV] at hd); simp only [putAll, List.take_succ_cons, List.take_zero, List.drop_succ_cons, List.drop_zero, Act.put, List.setIfInBounds_toArray, List.set_cons_zero, List.set_cons_succ, Nat.zero_add, Nat.reduceAdd]; go_simp; exact ⟨Below.refl _ _, rfl⟩
    case rcs1 =>
      intro v W hE hd; simp only [Region.wanted, ↓reduceIte]; (try simp [deps, waitsOn, Region.binds, knowing, isV, ownsV, anyV] at hd); simp only [putAll, List.take_succ_cons, List.take_zero, List.drop_succ_cons, List.drop_zero, Act.put, List.setIfInBounds_toArray, List.set_cons_zero, List.set_cons_succ, Nat.zero_add, Nat.reduceAdd]; go_simp; exact ⟨Below.refl _ _, rfl⟩
    case rcs2 =>
      intro v W hE hd; simp only [Region.wanted, ↓reduceIte]; (try simp [deps, waitsOn, Region.binds, knowing, isV, ownsV, anyV] at hd); simp only [putAll, List.take_succ_cons, List.take_zero, List.drop_succ_cons, List.drop_zero, Act.put, List.setIfInBounds_toArray, List.set_cons_zero, List.set_cons_succ, Nat.zero_add, Nat.reduceAdd]; go_simp; exact ⟨Below.refl _ _, rfl⟩
    case rcs3 =>
      intro v W hE hd; simp only [Region.wanted, ↓reduceIte]; (try simp [deps, waitsOn, Region.binds, knowing, isV, ownsV, anyV] at hd); simp only [putAll, List.take_succ_cons, List.take_zero, List.drop_succ_cons, List.drop_zero, Act.put, List.setIfInBounds_toArray, List.set_cons_zero, List.set_cons_succ, Nat.zero_add, Nat.reduceAdd]
      have hb := (hE.block y (Array.getElem?_eq_some_iff.1 Hc.out).1).trans Hc.out
      have c0 : W.cell? ⟨y, 0, none⟩ = some (.int .i64 d.kind) := by rw [cell_of_row _ _ _ _ _ _ hb]; rfl
      have c1 : W.cell? ⟨y, 1, none⟩ = some (.string (str d.field)) := by rw [cell_of_row _ _ _ _ _ _ hb]; rfl
      have c2 : W.cell? ⟨y, 2, none⟩ = some (.slice A d.q.length c) := by rw [cell_of_row _ _ _ _ _ _ hb]; rfl
      clear hb
      go_simp
      exact ⟨Below.refl _ _, rfl⟩
    case rcs4 =>
      intro v W hE hd; simp only [Region.wanted, ↓reduceIte]; (try simp [deps, waitsOn, Region.binds, knowing, isV, ownsV, anyV] at hd); simp only [putAll, List.take_succ_cons, List.take_zero, List.drop_succ_cons, List.drop_zero, Act.put, List.setIfInBounds_toArray, List.set_cons_zero, List.set_cons_succ, Nat.zero_add, Nat.reduceAdd]
      have HE := hid (ext_alloc W (.cells #[] 150))
      have HO := hid (OwnK.empty (R := REnt) (K := fun _ => False) (e := 150) W w.heap.size hE.size)
      go_simp
      exact ⟨HE.out, _, rfl, HO.out⟩
    case rcs5 =>
      intro v W hE hd; simp only [Region.wanted, ↓reduceIte]; (try simp [deps, waitsOn, Region.binds, knowing, isV, ownsV, anyV] at hd); simp only [putAll, List.take_succ_cons, List.take_zero, List.drop_succ_cons, List.drop_zero, Act.put, List.setIfInBounds_toArray, List.set_cons_zero, List.set_cons_succ, Nat.zero_add, Nat.reduceAdd]; go_simp; exact ⟨Below.refl _ _, rfl⟩
    case rcs6 =>
      intro v W hE hd; simp only [Region.wanted, ↓reduceIte]; (try simp [deps, waitsOn, Region.binds, knowing, isV, ownsV, anyV] at hd); simp only [putAll, List.take_succ_cons, List.take_zero, List.drop_succ_cons, List.drop_zero, Act.put, List.setIfInBounds_toArray, List.set_cons_zero, List.set_cons_succ, Nat.zero_add, Nat.reduceAdd]; go_simp; exact ⟨Below.refl _ _, rfl⟩
    case rcs7 =>
      intro v W hE hd; simp only [Region.wanted, ↓reduceIte]; (try simp [deps, waitsOn, Region.binds, knowing, isV, ownsV, anyV] at hd); simp only [putAll, List.take_succ_cons, List.take_zero, List.drop_succ_cons, List.drop_zero, Act.put, List.setIfInBounds_toArray, List.set_cons_zero, List.set_cons_succ, Nat.zero_add, Nat.reduceAdd]; go_simp; exact ⟨Below.refl _ _, rfl⟩
    case rcs8 =>
      intro v W hE hd; simp only [Region.wanted, ↓reduceIte]; (try simp [deps, waitsOn, Region.binds, knowing, isV, ownsV, anyV] at hd); simp only [putAll, List.take_succ_cons, List.take_zero, List.drop_succ_cons, List.drop_zero, Act.put, List.setIfInBounds_toArray, List.set_cons_zero, List.set_cons_succ, Nat.zero_add, Nat.reduceAdd]
      have hb := (hE.block y (Array.getElem?_eq_some_iff.1 Hc.out).1).trans Hc.out
      have c3 : W.cell? ⟨y, 3, none⟩ = some (.slice B D.length b) := by rw [cell_of_row _ _ _ _ _ _ hb]; rfl
      clear hb
      go_simp
      exact ⟨Below.refl _ _, rfl⟩
    case rcs9 =>
      intro v W hE hd; simp only [Region.wanted, ↓reduceIte]; (try simp [deps, waitsOn, Region.binds, knowing, isV, ownsV, anyV] at hd); simp only [putAll, List.take_succ_cons, List.take_zero, List.drop_succ_cons, List.drop_zero, Act.put, List.setIfInBounds_toArray, List.set_cons_zero, List.set_cons_succ, Nat.zero_add, Nat.reduceAdd]
      obtain ⟨h4, h8⟩ := hd
      obtain ⟨g, e4, hO⟩ := (show ∃ g, v 4 = .slice (some ⟨g, 0, none⟩) 0 0 ∧ OwnK REnt 150 (fun _ => False) W w.heap.size (v 4) [] from h4)
      rw [e4] at hO
      have hrow : ∃ cs, Rows REnt W (fun _ => False) D cs ∧ RV W B cs := by
        obtain ⟨-, -, -, cs, hr, hv⟩ := H3.out.ext fun k hk => hE.block k hk.1
        refine ⟨cs, rows_ent hr, ?_⟩
        rcases hv with hv | ⟨b', o', e, -, hv⟩
        · exact .inl hv
        · exact .inr ⟨b', o', e, hv⟩
      obtain ⟨v', w', hrun, ho, hE2⟩ := run_app_fullK (P := Tryz.prog) (R := REnt) entinfo 147 g 0 rfl hO hE.size (fun _ h => h.elim) B b D.length D rfl hrow (by omega) (by decide)
      rw [List.nil_append] at ho
      obtain ⟨A', c', e', hS⟩ := ownK_out (S := fun k => k < w.heap.size) ho (fun _ h => h.elim) (fun k hk => hk)
      refine step_appN (.tmp 7) (.tmp 11) rfl e4 h8 hrun ?_
      exact ⟨v', rfl, hE2, A', c', e', hS⟩
    case rcs10 =>
      intro v W hE hd; simp only [Region.wanted, ↓reduceIte]; (try simp [deps, waitsOn, Region.binds, knowing, isV, ownsV, anyV] at hd); simp only [putAll, List.take_succ_cons, List.take_zero, List.drop_succ_cons, List.drop_zero, Act.put, List.setIfInBounds_toArray, List.set_cons_zero, List.set_cons_succ, Nat.zero_add, Nat.reduceAdd]
      obtain ⟨h3, h9⟩ := hd
      obtain ⟨A', c', e9, hS⟩ := (show ∃ A c, v 9 = .slice A D.length c ∧ SlR REnt W (fun k => k < W.heap.size ∧ ¬ k < w.heap.size) A D.length c D from h9)
      have HS := hid hS
      rw [h3, e9]
      clear h9 hS
      go_simp
      exact ⟨Below.refl _ _, A', c', rfl, HS.out⟩
    case rcs11 =>
      intro v W hE hd; simp only [Region.wanted, ↓reduceIte]; (try simp [deps, waitsOn, Region.binds, knowing, isV, ownsV, anyV] at hd); simp only [putAll, List.take_succ_cons, List.take_zero, List.drop_succ_cons, List.drop_zero, Act.put, List.setIfInBounds_toArray, List.set_cons_zero, List.set_cons_succ, Nat.zero_add, Nat.reduceAdd]
      obtain ⟨A', c', e9, hS⟩ := (show ∃ A' c', v 10 = .agg #[.int .i64 d.kind, .string (str d.field), .slice A d.q.length c, .slice A' D.length c'] ∧ SlR REnt W (fun k => k < W.heap.size ∧ ¬ k < w.heap.size) A' D.length c' D from by first | exact hd | exact hd.1)
      have HS := hid hS
      have HE := hid (ext_alloc W (.cells #[.int .i64 d.kind, .string (str d.field), .slice A d.q.length c, .slice A' D.length c'] 158))
      rw [e9]
      clear hS e9
      go_simp
      exact ⟨HE.out, _, A', c', rfl, hE.size, heap_alloc_last _ _, (HS.out.ext fun k hk => HE.out.block k hk.1).mono fun k hk => ⟨⟨Nat.lt_of_lt_of_le hk.1 HE.out.size, hk.2⟩, by have := hk.1; omega⟩⟩
    case rcs12 =>
      intro v W hE hd; simp only [Region.wanted, ↓reduceIte]; (try simp [deps, waitsOn, Region.binds, knowing, isV, ownsV, anyV] at hd); simp only [putAll, List.take_succ_cons, List.take_zero, List.drop_succ_cons, List.drop_zero, Act.put, List.setIfInBounds_toArray, List.set_cons_zero, List.set_cons_succ, Nat.zero_add, Nat.reduceAdd]
      go_simp
      exact ⟨Below.refl _ _, (show (bxX w.heap.size (.int .i64 d.kind) (.string (str d.field)) (.slice A d.q.length c) D).p (v 11) W from by first | exact hd | exact hd.1)⟩
  · rintro v W9 hE ⟨-, -, -, -, -, -, -, -, -, -, -, -, e12, -⟩
    have e12 := (show _ from e12)
    simp only [putAll, List.take_succ_cons, List.take_zero, List.drop_succ_cons, List.drop_zero, Act.put, List.setIfInBounds_toArray, List.set_cons_zero, List.set_cons_succ, Nat.zero_add, Nat.reduceAdd]
    obtain ⟨s, A', c', e, hs, hb, hS⟩ := (show ∃ s A' c', v 12 = .pointer (some ⟨s, 0, none⟩) ∧ w.heap.size ≤ s ∧ W9.heap[s]? = some (.cells #[.int .i64 d.kind, .string (str d.field), .slice A d.q.length c, .slice A' D.length c'] 158) ∧ SlR REnt W9 (fun k => (k < W9.heap.size ∧ ¬ k < w.heap.size) ∧ k ≠ s) A' D.length c' D from e12)
    rw [e]
    have hpost := hid (show SClone w S d D (.returned (.pointer (some ⟨s, 0, none⟩))) W9 from ⟨hE, s, rfl, hs, fun S' hS' hy => ⟨⟨A, c, A', _, c', hb,
      (H2.out.ext fun k hk => hE.block k hk.1).mono fun k hk => ⟨Nat.lt_of_lt_of_le hk.1 hE.size, fun h' => by
        rcases hS' k h' with h | h
        · exact hk.2 h.1
        · have := hk.1; omega⟩,
      hS.mono fun k hk => ⟨hk.1.1, fun h' => by
        rcases hS' k h' with h | h
        · exact hk.1.2 h.2
        · exact hk.2 h⟩⟩, hy⟩⟩)
    clear e12 e hs hb hS hE
    go_wp2
    go_ret
    exact hpost.out
end Go.Proofs.YtakebdeldndaaaaGreatDoor

/- registrarref16.Set.Clone. -/
namespace Go.Proofs.YtakebdeldndaaaaGreatDoor
open Go Go.RowKit
set_option linter.unusedSimpArgs false
set_option linter.unusedVariables false

theorem run_sapp {w : World} {base : Nat} {v : Value} {xs : List Nat} (ty : TypeId) (hown : OwnK Rep.ptr 154 (fun _ => False) w base v xs) (hbase : base ≤ w.heap.size) (a : Addr) (s : Nat) (hr : RV w (some a) [.pointer (some ⟨s, 0, none⟩)]) (hmax : xs.length ≤ 900000) :
    ∃ v' w', (Builtin.append_ #[151, 151] ty #[v, .slice (some a) 1 1]).run Tryz.prog w = .ok v' w' ∧ OwnK Rep.ptr 154 (fun _ => False) w' base v' (xs ++ [s]) ∧ w.grownBy w' v.ownBlock ∧ (v'.ownBlock = v.ownBlock ∨ v'.ownBlock = some w.heap.size) := by
  obtain ⟨cs, ho, hrow⟩ := hown
  have hx : OwnX Rep.ptr 154 0 w base v xs := ⟨cs, ho, rows_ptr hrow⟩
  obtain ⟨v', w', h1, ⟨cs2, ho2, hr2⟩, h3, h4⟩ := run_appX sptrinfo ty hx hbase a 1 1 [s] rfl ⟨_, Rows.single rfl, hr⟩ (by omega) (by decide)
  exact ⟨v', w', h1, ⟨cs2, ho2, rows_ptr hr2⟩, h3, h4⟩
theorem RefSt.less {w : World} {S S' : Nat → Prop} {y : Nat} {d : DefV} {D : Ents} (h : RefSt w S y d D) (hS : ∀ k, S' k → S k) (hy : S' y) : RefSt w S' y d D := (RefS.less (m := y) ⟨h, rfl⟩ hS hy hy).st
structure SClSt (n0 nW : Nat) (S0 : Nat → Prop) (d : DefV) (D : Ents) (y : Nat) (W : World) : Prop where
  lo : nW ≤ y
  st : ∀ S' : Nat → Prop, (∀ k, S' k → ((S0 k ∨ n0 ≤ k) ∧ k < nW) ∨ k = y) → S' y → RefSt W S' y d D
section
variable {n0 nW : Nat} {S0 : Nat → Prop} {d : DefV} {D : Ents} {y p : Nat} {W W' : World}
theorem SClSt.ext (h : SClSt n0 nW S0 d D y W) (hE : Ext W W') : SClSt n0 nW S0 d D y W' := ⟨h.lo, fun S' h1 h2 => (h.st S' h1 h2).ext hE⟩
theorem SClSt.kept (h : SClSt n0 nW S0 d D y W) (hk : Kept2 p p W W') (hp : n0 ≤ p ∧ p < nW) : SClSt n0 nW S0 d D y W' :=
  ⟨h.lo, fun S' h1 h2 => by
    have hl := h.lo
    have h3 := h.st (fun k => S' k ∨ k = p) (fun k hk => hk.elim (h1 k) fun e => .inl ⟨.inr (by omega), by omega⟩) (.inl h2)
    exact (h3.kept hk (.inr rfl) (.inr rfl) (by omega) (by omega)).less (fun k hk => .inl hk) h2⟩
theorem SClSt.grown {row : Option Nat} (h : SClSt n0 nW S0 d D y W) (hg : W.grownBy W' row) (hr : ∀ k, row = some k → n0 ≤ k ∧ k < nW) : SClSt n0 nW S0 d D y W' := by
  cases row with
  | none => exact h.ext ⟨hg.os, hg.tape, hg.output, hg.size, fun k hk => hg.block k hk (by simp)⟩
  | some g => exact h.kept (Kept2.of_grown hg (.inl rfl)) (hr g rfl)
theorem SClSt.lt (h : SClSt n0 nW S0 d D y W) : y < W.heap.size := (h.st (fun k => k = y) (fun k hk => .inr hk) rfl).lt
end
def qCl (n0 nW : Nat) (S0 : Nat → Prop) (d : DefV) (D : Ents) : SPred := ⟨fun v W => ∃ s, v = .pointer (some ⟨s, 0, none⟩) ∧ SClSt n0 nW S0 d D s W, fun _ _ _ ⟨s, e, h⟩ hE => ⟨s, e, h.ext hE⟩⟩
def qBx (n0 nW : Nat) (S0 : Nat → Prop) (d : DefV) (D : Ents) : SPred := ⟨fun v W => ∃ b s, v = .slice (some ⟨b, 0, none⟩) 1 1 ∧ nW ≤ b ∧ W.heap[b]? = some (.cells #[.pointer (some ⟨s, 0, none⟩)] 154) ∧ SClSt n0 nW S0 d D s W,
  fun _ _ _ ⟨b, s, e, h0, h1, h⟩ hE => ⟨b, s, e, h0, (hE.block b (Array.getElem?_eq_some_iff.1 h1).1).trans h1, h.ext hE⟩⟩
def qAp (X : Nat → Prop) (n0 p : Nat) (V : List (DefV × Ents)) (L : List Pc) : SPred := ⟨fun v W => ∃ x, SPreIs X n0 p V v (L ++ [x]) W, fun _ _ _ ⟨x, h⟩ hE => ⟨x, h.ext hE⟩⟩
structure SCloneB (w : World) (nW : Nat) (W : World) : Prop where
  ext : Ext w W
  size : nW ≤ W.heap.size
structure SClonedIs (w : World) (S0 : Nat → Prop) (L0 : List Pc) (e : Ending) (w' : World) : Prop where
  ext : Ext w w'
  ex : ∃ p v L, e = .returned (.pointer (some ⟨p, 0, none⟩)) ∧ SNewIs S0 w.heap.size p (viewP L0) v L w'
set_option maxRecDepth 100000 in
set_option maxHeartbeats 4000000 in
theorem refSetClone_at {w : World} {S0 : Nat → Prop} {p0 : Nat} {L0 : List Pc} (h : RSetIs w S0 p0 L0) (hS0 : ∀ k, S0 k → k < w.heap.size) (hl : L0.length ≤ 1000) (hDl : ∀ x ∈ L0, x.D.length ≤ 999000) :
    Calls Tryz.prog 107 #[.pointer (some ⟨p0, 0, none⟩)] w fun e w' => SClonedIs w S0 L0 e w' := by
  obtain ⟨A, c, hc, hrow⟩ := h.row
  have Hpcs := hid h.pcs
  have Hrow := hid hrow
  have HS0 := hid hS0
  have hnc := hrow.2.1
  have hcm := hrow.2.2.1
  have HEa := hid (ext_alloc w (.cells #[.slice none 0 0] 153))
  have hcell : (w.alloc (.cells #[.slice none 0 0] 153)).cell? ⟨p0, 0, none⟩ = some (.slice A L0.length c) := cell_below HEa.out (by rw [cell_of_row _ _ _ _ _ _ hc]; rfl)
  have Hc0 := hid (show w.cell? ⟨p0, 0, none⟩ = some (.slice A L0.length c) by rw [cell_of_row _ _ _ _ _ _ hc]; rfl)
  have HDl := hid hDl
  have HI := hid (show SNewIs S0 w.heap.size w.heap.size (viewP (L0.take 0)) (.slice none 0 0) [] (w.alloc (.cells #[.slice none 0 0] 153)) from
    ⟨heap_alloc_last _ _, OwnK.nil _ _, ScsIs.nil, rfl, ⟨fun k hk => (Blk.nil hk).elim, Nat.le_refl _⟩, HS0.out, Blk.nil, fun k hk => by cases hk⟩)
  clear h hc hrow hS0 hDl
  generalize hln : L0.length = n at *
  have hn := hid hln
  clear hln
  go_enter Tryz.func107, Tryz.ntmps107
  go_wp2_with fail
  clear hcell
  obtain ⟨p, hp⟩ : ∃ p, p = w.heap.size := ⟨_, rfl⟩
  have Hp := hid hp
  rw [← hp] at HI ⊢
  clear hp
  generalize w.alloc (.cells #[.slice none 0 0] 153) = w1 at *
  go_loopw [4] (fun i wr => ∃ k : Nat, k ≤ n ∧ i = .int .i64 (k : Int) ∧ Hid (∃ v L, SNewIs S0 p p (viewP (L0.take k)) v L wr) ∧ Hid (Ext w wr)) (fun i _ => n - (intOf i).toNat)
  case atStart => exact ⟨0, by omega, rfl, ⟨_, _, HI.out⟩, HEa⟩
  case round =>
    obtain ⟨k, hk, rfl, HI', HE⟩ := hrel
    clear HI
    obtain ⟨u0, L, hI⟩ := HI'.out
    have HI := hid hI
    clear hI HI'
    have c0 := cell_below HE.out Hc0.out
    by_cases hlt : k < n
    · have hkx : k < L0.length := by have := hn.out; omega
      have hlt' : (k : Int) < (n : Int) := by omega
      have hk00 : ¬ ((k : Int) < 0) := by omega
      have hk0 : (0 : Int) ≤ (k : Int) := by omega
      obtain ⟨b, o, rfl, -, f0⟩ := ptr_at Hrow.out k (by rw [List.length_map]; exact hkx)
      rw [List.getElem_map] at f0
      have HX := hid (show ∀ W, Ext w W → RefSt W (fun j => S0 j ∨ p ≤ j) L0[k].s L0[k].d L0[k].D from fun W hE => ((Hpcs.out.each _ (List.getElem_mem hkx)).more hE (fun j hj => hj.imp id fun h => by have := Hp.out; omega) (.inl (Hpcs.out.each _ (List.getElem_mem hkx)).sIn) (.inl (Hpcs.out.each _ (List.getElem_mem hkx)).mIn)).st)
      have HDk := hid (HDl.out _ (List.getElem_mem hkx))
      have HV := hid (show viewP (L0.take (k + 1)) = viewP (L0.take k) ++ [(L0[k].d, L0[k].D)] by unfold viewP; rw [List.take_succ_eq_append_getElem hkx, List.map_append]; rfl)
      have HXl := hid (show L0[k].s < p ∧ L0[k].m < p from by
        have h1 := (Hpcs.out.each _ (List.getElem_mem hkx)).lt
        have := Hp.out; omega)
      have Hnl := hid (show (L.map (·.s)).length ≤ 900000 from by
        have h1 := congrArg List.length HI.out.view
        unfold viewP at h1
        rw [List.length_map, List.length_map, List.length_take] at h1
        rw [List.length_map]; omega)
      generalize L0[k] = x0 at *
      generalize viewP (L0.take k) = V at *
      obtain ⟨s0, m0, d, D⟩ := x0
      dsimp only at HX HDk HV HXl f0 ⊢
      have Hown := hid (fun j hj => HI.out.ownLt j hj)
      have Hof := hid HI.out.free.2
      have HpL := hid HI.out.pLt
      have Hf := hid f0
      clear f0
      go_wp2_with fail
      clear c0
      obtain ⟨nW, hnW⟩ : ∃ nW, nW = wr.heap.size := ⟨_, rfl⟩
      have HnW := hid hnW
      clear hnW
      apply wp_drawn_pg 14 17 (Kept2 p p) (fun a b => a.grownBy b u0.ownBlock) (SCloneB w nW) (Ext wr) (fun W => W.heap[p]? = some (.cells #[u0] 153)) (fun W => ∃ v' x, SNewIs S0 p p (V ++ [(d, D)]) v' (L ++ [x]) W) [isV _, isV _, isV _, isV _, isV u0, isV _, isV _, isV _, isV (.slice (some ⟨b, o, none⟩) n c), isV _, isV _, isV (.pointer (some ⟨s0, 0, none⟩)), qCl p nW S0 d D, qBx p nW S0 d D, qAp S0 p p (V ++ [(d, D)]) L, isV _, isV _, anyV] (by kernel_rfl)
      · kernel_rfl
      · kernel_rfl
      · intro W hE
        exact ⟨⟨HE.out.trans' hE, by rw [HnW.out]; exact hE.size⟩, hE⟩
      · intro W W' hE
        exact ⟨Kept2.of_ext hE, fun h => ⟨h.ext.trans' hE, Nat.le_trans h.size hE.size⟩, fun h => h.trans' hE, fun h => (hE.block p (Array.getElem?_eq_some_iff.1 h).1).trans h, fun ⟨v', x, h⟩ => ⟨v', x, h.ext hE⟩⟩
      · refine ⟨?cls0, ?cls1, ?cls2, ?cls3, ?cls4, ?cls5, ?cls6, ?cls7, ?cls8, ?cls9, ?cls10, ?cls11, ?cls12, ?cls13, ?cls14, ?cls15, ?cls16, ?cls17, trivial⟩
        case cls0 =>
          refine @stepPg_quiet _ _ _ _ _ _ _ _ _ _ _ _ _ _ (by decide) (by decide) ?_
          intro v W hE hd; simp only [Region.wanted, ↓reduceIte]; (try simp [deps, waitsOn, Region.binds, knowing, isV, ownsV, anyV] at hd); simp only [putAll, List.take_succ_cons, List.take_zero, List.drop_succ_cons, List.drop_zero, Act.put, List.setIfInBounds_toArray, List.set_cons_zero, List.set_cons_succ, Nat.zero_add, Nat.reduceAdd]; go_simp; exact ⟨Below.refl _ _, rfl⟩
        case cls1 =>
          refine @stepPg_quiet _ _ _ _ _ _ _ _ _ _ _ _ _ _ (by decide) (by decide) ?_
          intro v W hE hd; simp only [Region.wanted, ↓reduceIte]; (try simp [deps, waitsOn, Region.binds, knowing, isV, ownsV, anyV] at hd); simp only [putAll, List.take_succ_cons, List.take_zero, List.drop_succ_cons, List.drop_zero, Act.put, List.setIfInBounds_toArray, List.set_cons_zero, List.set_cons_succ, Nat.zero_add, Nat.reduceAdd]; go_simp; exact ⟨Below.refl _ _, rfl⟩
        case cls2 =>
          refine @stepPg_quiet _ _ _ _ _ _ _ _ _ _ _ _ _ _ (by decide) (by decide) ?_
          intro v W hE hd; simp only [Region.wanted, ↓reduceIte]; (try simp [deps, waitsOn, Region.binds, knowing, isV, ownsV, anyV] at hd); simp only [putAll, List.take_succ_cons, List.take_zero, List.drop_succ_cons, List.drop_zero, Act.put, List.setIfInBounds_toArray, List.set_cons_zero, List.set_cons_succ, Nat.zero_add, Nat.reduceAdd]; go_simp; exact ⟨Below.refl _ _, rfl⟩
        case cls3 =>
          refine @stepPg_quiet _ _ _ _ _ _ _ _ _ _ _ _ _ _ (by decide) (by decide) ?_
          intro v W hE hd; simp only [Region.wanted, ↓reduceIte]; (try simp [deps, waitsOn, Region.binds, knowing, isV, ownsV, anyV] at hd); simp only [putAll, List.take_succ_cons, List.take_zero, List.drop_succ_cons, List.drop_zero, Act.put, List.setIfInBounds_toArray, List.set_cons_zero, List.set_cons_succ, Nat.zero_add, Nat.reduceAdd]; go_simp; exact ⟨Below.refl _ _, rfl⟩
        case cls4 =>
          refine @stepPg_early _ _ _ _ _ _ _ _ _ _ _ _ _ _ (by decide) (by decide) (by kernel_rfl) ?_
          intro v W hE hd; simp only [Region.wanted, ↓reduceIte]; (try simp [deps, waitsOn, Region.binds, knowing, isV, ownsV, anyV] at hd); simp only [putAll, List.take_succ_cons, List.take_zero, List.drop_succ_cons, List.drop_zero, Act.put, List.setIfInBounds_toArray, List.set_cons_zero, List.set_cons_succ, Nat.zero_add, Nat.reduceAdd]
          have e1 : W.cell? ⟨p, 0, none⟩ = some u0 := by rw [cell_of_row _ _ _ _ _ _ (HI.out.ext hE.2).cell]; rfl
          go_simp
          exact ⟨Below.refl _ _, rfl⟩
        case cls5 =>
          refine @stepPg_quiet _ _ _ _ _ _ _ _ _ _ _ _ _ _ (by decide) (by decide) ?_
          intro v W hE hd; simp only [Region.wanted, ↓reduceIte]; (try simp [deps, waitsOn, Region.binds, knowing, isV, ownsV, anyV] at hd); simp only [putAll, List.take_succ_cons, List.take_zero, List.drop_succ_cons, List.drop_zero, Act.put, List.setIfInBounds_toArray, List.set_cons_zero, List.set_cons_succ, Nat.zero_add, Nat.reduceAdd]; go_simp; exact ⟨Below.refl _ _, rfl⟩
        case cls6 =>
          refine @stepPg_quiet _ _ _ _ _ _ _ _ _ _ _ _ _ _ (by decide) (by decide) ?_
          intro v W hE hd; simp only [Region.wanted, ↓reduceIte]; (try simp [deps, waitsOn, Region.binds, knowing, isV, ownsV, anyV] at hd); simp only [putAll, List.take_succ_cons, List.take_zero, List.drop_succ_cons, List.drop_zero, Act.put, List.setIfInBounds_toArray, List.set_cons_zero, List.set_cons_succ, Nat.zero_add, Nat.reduceAdd]; go_simp; exact ⟨Below.refl _ _, rfl⟩
        case cls7 =>
          refine @stepPg_quiet _ _ _ _ _ _ _ _ _ _ _ _ _ _ (by decide) (by decide) ?_
          intro v W hE hd; simp only [Region.wanted, ↓reduceIte]; (try simp [deps, waitsOn, Region.binds, knowing, isV, ownsV, anyV] at hd); simp only [putAll, List.take_succ_cons, List.take_zero, List.drop_succ_cons, List.drop_zero, Act.put, List.setIfInBounds_toArray, List.set_cons_zero, List.set_cons_succ, Nat.zero_add, Nat.reduceAdd]; go_simp; exact ⟨Below.refl _ _, rfl⟩
        case cls8 =>
          refine @stepPg_quiet _ _ _ _ _ _ _ _ _ _ _ _ _ _ (by decide) (by decide) ?_
          intro v W hE hd; simp only [Region.wanted, ↓reduceIte]; (try simp [deps, waitsOn, Region.binds, knowing, isV, ownsV, anyV] at hd); simp only [putAll, List.take_succ_cons, List.take_zero, List.drop_succ_cons, List.drop_zero, Act.put, List.setIfInBounds_toArray, List.set_cons_zero, List.set_cons_succ, Nat.zero_add, Nat.reduceAdd]
          have e1 := cell_below hE.ext Hc0.out
          go_simp
          exact ⟨Below.refl _ _, rfl⟩
        case cls9 =>
          refine @stepPg_quiet _ _ _ _ _ _ _ _ _ _ _ _ _ _ (by decide) (by decide) ?_
          intro v W hE hd; simp only [Region.wanted, ↓reduceIte]; (try simp [deps, waitsOn, Region.binds, knowing, isV, ownsV, anyV] at hd); simp only [putAll, List.take_succ_cons, List.take_zero, List.drop_succ_cons, List.drop_zero, Act.put, List.setIfInBounds_toArray, List.set_cons_zero, List.set_cons_succ, Nat.zero_add, Nat.reduceAdd]; go_simp; exact ⟨Below.refl _ _, rfl⟩
        case cls10 =>
          refine @stepPg_quiet _ _ _ _ _ _ _ _ _ _ _ _ _ _ (by decide) (by decide) ?_
          intro v W hE hd; simp only [Region.wanted, ↓reduceIte]; (try simp [deps, waitsOn, Region.binds, knowing, isV, ownsV, anyV] at hd); simp only [putAll, List.take_succ_cons, List.take_zero, List.drop_succ_cons, List.drop_zero, Act.put, List.setIfInBounds_toArray, List.set_cons_zero, List.set_cons_succ, Nat.zero_add, Nat.reduceAdd]; go_simp; exact ⟨Below.refl _ _, rfl⟩
        case cls11 =>
          refine @stepPg_quiet _ _ _ _ _ _ _ _ _ _ _ _ _ _ (by decide) (by decide) ?_
          intro v W hE hd; simp only [Region.wanted, ↓reduceIte]; (try simp [deps, waitsOn, Region.binds, knowing, isV, ownsV, anyV] at hd); simp only [putAll, List.take_succ_cons, List.take_zero, List.drop_succ_cons, List.drop_zero, Act.put, List.setIfInBounds_toArray, List.set_cons_zero, List.set_cons_succ, Nat.zero_add, Nat.reduceAdd]
          have e1 := cell_below hE.ext Hf.out
          go_simp
          exact ⟨Below.refl _ _, rfl⟩
        case cls12 =>
          refine @stepPg_quiet _ _ _ _ _ _ _ _ _ _ _ _ _ _ (by decide) (by decide) ?_
          intro v W hE hd; simp only [Region.wanted, ↓reduceIte]; (try simp [deps, waitsOn, Region.binds, knowing, isV, ownsV, anyV] at hd); simp only [putAll, List.take_succ_cons, List.take_zero, List.drop_succ_cons, List.drop_zero, Act.put, List.setIfInBounds_toArray, List.set_cons_zero, List.set_cons_succ, Nat.zero_add, Nat.reduceAdd]
          go_simp
          refine (refStClone_at (d := d) (HX.out _ hE.ext) HDk.out).mono ?_
          rintro z w' ⟨hE2, s1, rfl, hs1, hS1⟩
          have hcl : SClSt p nW S0 d D s1 w' := ⟨Nat.le_trans hE.size hs1, fun S' h1 h2 => hS1 S' (fun j hj => (h1 j hj).imp (fun h => ⟨h.1, Nat.lt_of_lt_of_le h.2 hE.size⟩) id) h2⟩
          have HC := hid hcl; have HE2 := hid hE2
          clear hcl hS1 hE2
          go_simp
          exact ⟨HE2.out, s1, rfl, HC.out⟩
        case cls13 =>
          refine @stepPg_quiet _ _ _ _ _ _ _ _ _ _ _ _ _ _ (by decide) (by decide) ?_
          intro v W hE hd; simp only [Region.wanted, ↓reduceIte]; (try simp [deps, waitsOn, Region.binds, knowing, isV, ownsV, anyV] at hd); simp only [putAll, List.take_succ_cons, List.take_zero, List.drop_succ_cons, List.drop_zero, Act.put, List.setIfInBounds_toArray, List.set_cons_zero, List.set_cons_succ, Nat.zero_add, Nat.reduceAdd]
          obtain ⟨s1, e6, hcl⟩ := hd
          have HC := hid hcl
          clear hcl
          rw [e6]
          go_simp
          exact ⟨ext_alloc _ _, W.heap.size, s1, rfl, hE.size, heap_alloc_last _ _, HC.out.ext (ext_alloc _ _)⟩
        case cls14 =>
          refine @stepPg_fst _ _ _ _ _ _ _ _ _ _ _ _ _ ?_
          intro v W hB hd; refine ⟨rfl, ?_⟩; (try simp [deps, waitsOn, Region.binds, knowing, isV, ownsV, anyV] at hd); simp only [putAll, List.take_succ_cons, List.take_zero, List.drop_succ_cons, List.drop_zero, Act.put, List.setIfInBounds_toArray, List.set_cons_zero, List.set_cons_succ, Nat.zero_add, Nat.reduceAdd]
          obtain ⟨hB, hI⟩ := hB
          obtain ⟨e4, ⟨b1, s1, e7, hb1, hcl0, hcl⟩, -⟩ := hd
          have hbp : p ≤ W.heap.size := by have := hB.size; have := HpL.out; have := HnW.out; omega
          obtain ⟨v', w', hrun, ho, hg, hat⟩ := run_sapp _ (HI.out.ext hI).own hbp ⟨b1, 0, none⟩ s1 (.inr ⟨b1, 0, rfl, fun j u hu => by
            match j, hu with
            | 0, hu => simp at hu; subst hu; rw [cell_of_row _ _ _ _ _ _ hcl0]; rfl⟩) Hnl.out
          have hpre := HI.out.pre (x := ⟨s1, s1, d, D⟩) hI (by have h3 := hcl.lo; have h4 := HnW.out; rw [h4] at h3; exact ⟨h3, h3⟩) ⟨hcl.lt, hcl.lt⟩ (fun S' hS h1 h2 => ⟨hcl.st S' (fun j hj => by
            have h3 := hcl.lo; have h4 := HpL.out; have h5 := HnW.out
            rcases hS j hj with h | h | h | h
            · exact .inl ⟨.inl h, by have := HS0.out j h; have := HE.out.size; omega⟩
            · exact .inl ⟨.inr h.1, by omega⟩
            · exact .inr h
            · exact .inr h) h1, rfl⟩) ho hg hat
          refine step_appN (.tmp 20) (.tmp 29) rfl e4 e7 hrun ?_
          refine ⟨v', rfl, ⟨⟨⟨?_, Nat.le_trans hB.size hg.size⟩, hpre.2⟩, hg⟩, _, hpre.1⟩
          exact hB.ext.grown hg hB.ext.size fun j hj => by have := (Hown.out j hj).1; have := Hp.out; omega
        case cls15 =>
          refine @stepPg_quiet _ _ _ _ _ _ _ _ _ _ _ _ _ _ (by decide) (by decide) ?_
          intro v W hE hd; simp only [Region.wanted, ↓reduceIte]; (try simp [deps, waitsOn, Region.binds, knowing, isV, ownsV, anyV] at hd); simp only [putAll, List.take_succ_cons, List.take_zero, List.drop_succ_cons, List.drop_zero, Act.put, List.setIfInBounds_toArray, List.set_cons_zero, List.set_cons_succ, Nat.zero_add, Nat.reduceAdd]; go_simp; exact ⟨Below.refl _ _, rfl⟩
        case cls16 =>
          refine @stepPg_quiet _ _ _ _ _ _ _ _ _ _ _ _ _ _ (by decide) (by decide) ?_
          intro v W hE hd; simp only [Region.wanted, ↓reduceIte]; (try simp [deps, waitsOn, Region.binds, knowing, isV, ownsV, anyV] at hd); simp only [putAll, List.take_succ_cons, List.take_zero, List.drop_succ_cons, List.drop_zero, Act.put, List.setIfInBounds_toArray, List.set_cons_zero, List.set_cons_succ, Nat.zero_add, Nat.reduceAdd]; go_simp; exact ⟨Below.refl _ _, rfl⟩
        case cls17 =>
          refine @stepPg_snd _ _ _ _ _ _ _ _ _ _ _ _ _ (by decide) ?_
          intro v W hB hd; refine ⟨rfl, ?_⟩; (try simp [deps, waitsOn, Region.binds, knowing, isV, ownsV, anyV] at hd); simp only [putAll, List.take_succ_cons, List.take_zero, List.drop_succ_cons, List.drop_zero, Act.put, List.setIfInBounds_toArray, List.set_cons_zero, List.set_cons_succ, Nat.zero_add, Nat.reduceAdd]
          obtain ⟨hB, hI⟩ := hB
          obtain ⟨e10, ⟨x, hpre⟩, -⟩ := hd
          obtain ⟨A8, l8, c8, e8⟩ : ∃ A l c, v 14 = .slice A l c := (let ⟨A, c, _, e, _⟩ := hpre.own.read; ⟨A, _, c, e⟩)
          rw [e8] at hpre ⊢
          have hst := hpre.store hI
          have g1 : W.cell? ⟨p, 0, none⟩ = some u0 := by rw [cell_of_row _ _ _ _ _ _ hI]; rfl
          have g2 : W.frozen? ⟨p, 0, none⟩ = false := by have := hI; simp [World.frozen?, this]
          have HS := hid hst
          have HB2 := hid (show SCloneB w nW (W.setCell ⟨p, 0, none⟩ (.slice A8 l8 c8)) from ⟨hB.ext.setCell (by have := Hp.out; show w.heap.size ≤ p; omega) _, by have := hB.size; simpa using this⟩)
          have HK := hid (show Kept2 p p W (W.setCell ⟨p, 0, none⟩ (.slice A8 l8 c8)) from ⟨rfl, rfl, rfl, by simp, fun k hk h1 _ => heap_setCell_other W ⟨p, 0, none⟩ k _ (fun e => h1 e)⟩)
          clear hst hpre hI hB e8
          go_simp
          exact ⟨⟨⟨HB2.out, _, x, HS.out⟩, HK.out⟩, undef, trivial⟩
      · intro i w1 w2 w3 hT h
        match i, h with
        | 0, h => exact h
        | 1, h => exact h
        | 2, h => exact h
        | 3, h => exact h
        | 4, h => exact h
        | 5, h => exact h
        | 6, h => exact h
        | 7, h => exact h
        | 8, h => exact h
        | 9, h => exact h
        | 10, h => exact h
        | 11, h => exact h
        | 12, h =>
          exact (fun ⟨s, e, h⟩ => ⟨s, e, h.kept hT ⟨Nat.le_refl _, by have := HpL.out; have := HnW.out; omega⟩⟩ : _ → _) h
        | 13, h =>
          exact (fun ⟨b, s, e, h0, h1, h⟩ => ⟨b, s, e, h0, (hT.block b (Array.getElem?_eq_some_iff.1 h1).1 (by have := HpL.out; have := HnW.out; omega) (by have := HpL.out; have := HnW.out; omega)).trans h1, h.kept hT ⟨Nat.le_refl _, by have := HpL.out; have := HnW.out; omega⟩⟩ : _ → _) h
        | 14, h =>
          exact (fun ⟨x, h⟩ => ⟨x, h.kept hT⟩ : _ → _) h
        | 15, h => exact h
        | 16, h => exact h
        | 17, h => exact h
        | _ + 18, h => exact h
      · intro i w1 w2 w3 hip hT h
        match i, hip, h with
        | 0, hip, h => exact h
        | 1, hip, h => exact h
        | 2, hip, h => exact h
        | 3, hip, h => exact h
        | 4, hip, h => exact h
        | 5, hip, h => exact h
        | 6, hip, h => exact h
        | 7, hip, h => exact h
        | 8, hip, h => exact h
        | 9, hip, h => exact h
        | 10, hip, h => exact h
        | 11, hip, h => exact h
        | 12, hip, h =>
          exact (fun ⟨s, e, h⟩ => ⟨s, e, h.grown hT fun j hj => by have := Hown.out j hj; have := HnW.out; omega⟩ : _ → _) h
        | 13, hip, h =>
          exact (fun ⟨b, s, e, h0, h1, h⟩ => ⟨b, s, e, h0, (hT.block b (Array.getElem?_eq_some_iff.1 h1).1 (fun e' => by have := Hown.out b e'.symm; have := HnW.out; omega)).trans h1, h.grown hT fun j hj => by have := Hown.out j hj; have := HnW.out; omega⟩ : _ → _) h
        | 14, hip, h =>
          exact absurd rfl hip
        | 15, hip, h => exact h
        | 16, hip, h => exact h
        | 17, hip, h => exact h
        | _ + 18, hip, h => exact h
      · rintro v W9 hB hI ⟨-, -, -, -, -, -, -, -, -, -, -, -, -, -, -, -, -, -, -⟩
        simp only [putAll, List.take_succ_cons, List.take_zero, List.drop_succ_cons, List.drop_zero, Act.put, List.setIfInBounds_toArray, List.set_cons_zero, List.set_cons_succ, Nat.zero_add, Nat.reduceAdd]
        obtain ⟨v', x, hI'⟩ := hI
        have HIf := hid hI'; have HEf := hid hB.ext
        clear hI' hB
        go_wp2_with fail
        go_roundw
        case rel => exact ⟨k + 1, by omega, by go_num, by rw [HV.out]; exact ⟨_, _, HIf.out⟩, HEf⟩
        case measure => simp [intOf]; omega
    · obtain rfl : k = n := by omega
      have hlt' : ¬ ((k : Int) < (k : Int)) := by omega
      have hall : L0.take k = L0 := List.take_of_length_le (by have := hn.out; omega)
      rw [hall] at HI
      have hpost := hid (show SClonedIs w S0 L0 (.returned (.pointer (some ⟨p, 0, none⟩))) wr from ⟨HE.out, p, u0, L, rfl, by have := HI.out; rw [Hp.out] at this ⊢; exact this⟩)
      go_wp2
      go_ret
      exact hpost.out
end Go.Proofs.YtakebdeldndaaaaGreatDoor

/- registrarref16.Set.Apply. -/
namespace Go.Proofs.YtakebdeldndaaaaGreatDoor
open Go Go.RowKit
set_option linter.unusedSimpArgs false
set_option linter.unusedVariables false

structure SDidIs (w : World) (S : Nat → Prop) (p : Nat) (L : List Pc) (es : List EvV) (x : Ending) (w' : World) : Prop where
  kept : Kept2 p p w w'
  ans : (okAll es (viewP L) = true ∧ x = .returned (.int .i64 0) ∧ ∃ L' S', RSetIs w' S' p L' ∧ viewP L' = runAll es (viewP L) ∧ (∀ k, S' k → (S k ∨ w.heap.size ≤ k) ∧ k < w'.heap.size) ∧ (∀ k, S k → S' k) ∧ SRowLo w' w.heap.size p L' ∧ (∀ k, Blk L' k → w.heap.size ≤ k)) ∨
    (okAll es (viewP L) = false ∧ x = .returned (.int .i64 4) ∧ Ext w w')
theorem okR_fold {d : DefV} : ∀ (es : List EvV) {D : Ents}, OkR d D → OkR d (foldE d D es)
  | [], D, h => h
  | e :: es, D, h => okR_fold es (okR_step h)
set_option maxRecDepth 100000 in
set_option maxHeartbeats 4000000 in
theorem refSetApply_at {w : World} {S : Nat → Prop} {p : Nat} {L : List Pc} (h : RSetIs w S p L) (hS : ∀ k, S k → k < w.heap.size) (hl : L.length ≤ 1000) {A : Option Addr} {n c : Nat} {rs : List (Int × Int × EvV)} (hr : SlR RRec w (Out S w) A n c rs)
    {B : Int} (hf : ∀ x ∈ L, RunFit x.d x.D B rs.length) (hs : ∀ e ∈ evsOf rs, SmallE e) (hok : ∀ x ∈ L, OkR x.d x.D ∧ 1 ≤ x.d.kind ∧ x.d.kind ≤ 4) :
    Calls Tryz.prog 67 #[.pointer (some ⟨p, 0, none⟩), .slice A n c] w fun x w' => SDidIs w S p L (evsOf rs) x w' := by
  have HSet := hid h
  have HS := hid hS
  have Hr := hid hr
  have Hf := hid hf
  have Hs := hid hs
  have Hok := hid hok
  have hn := hid hr.1
  have hrc := hr.2.1
  have hrm := hr.2.2.1
  have Hel := hid (evsOf_len rs)
  have hcc := refSetClone_at h hS hl (fun x hx => by have := (hf x hx).len; omega)
  clear h hS hr hf hs hok
  go_enter Tryz.func67, Tryz.ntmps67
  go_wp2_with fail
  refine hcc.mono ?_
  clear hcc
  rintro e w1 ⟨hE, p', vv, L', rfl, hI⟩
  have HE := hid hE
  have hdone := hI.done
  have hvg := view_get hI.view
  have Hlt := hid (fun k hk => hI.lt k hk)
  have Hxlo := hid hI.xlo
  clear hE
  obtain ⟨A', c', hc', hrow⟩ := hI.rowLo
  have Hview := hid hI.view
  have Hpcs := hid hdone.pcs
  have Hfree := hid hdone.pFree
  have Hp' := hid (And.intro hI.lo.2 hI.pLt)
  have HRow := hid hrow
  have hnc := hrow.2.1
  have hcm := hrow.2.2.1
  have hl' : L'.length ≤ 1000 := by omega
  have B0 := hid (show w1.cell? ⟨p', 0, none⟩ = some (.slice A' L'.length c') by rw [cell_of_row _ _ _ _ _ _ hc']; rfl)
  have Hvg := hid hvg
  have HSlt := hid (show ∀ k, NewS S p' vv L' k → k < w1.heap.size from fun j hj => by
    rcases hj with hj | hj | hj | hj
    · have := Hp'.out; omega
    · exact (Hlt.out j (.inr (.inl hj))).2
    · exact (Hlt.out j (.inr (.inr (.inl hj)))).2
    · have := HS.out j hj; have := HE.out.size; omega)
  have Hr1 := hid (show SlR RRec w1 (Out (NewS S p' vv L') w1) A n c rs from (Hr.out.ext fun j hj => HE.out.block j hj.1).mono fun j hj => ⟨Nat.lt_of_lt_of_le hj.1 HE.out.size, fun hn => by
    have hj1 := hj.1
    rcases hn with hn | hn | hn | hn
    · have := Hp'.out.1; omega
    · have := Hlt.out j (.inr (.inl hn)); omega
    · have := Hlt.out j (.inr (.inr (.inl hn))); omega
    · exact hj.2 hn⟩)
  clear hI hdone hrow hvg hc'
  generalize hln : L'.length = n' at HRow B0 hnc hl' ⊢
  have Hln := hid hln
  clear hln
  go_wp2_with fail
  go_loopw [6] (fun i wr => ∃ k : Nat, k ≤ n' ∧ i = .int .i64 (k : Int) ∧ Hid (ScsIs wr (NewS S p' vv L') (doneP (evsOf rs) k L')) ∧ Hid (Ext w wr) ∧ Hid (SlR Rep.ptr wr (fun j => Free L' p' wr j ∧ w.heap.size ≤ j) A' n' c' (L'.map (·.s))) ∧ Hid (wr.cell? ⟨p', 0, none⟩ = some (.slice A' n' c')) ∧ Hid (w1.heap.size ≤ wr.heap.size) ∧ Hid (∀ j (hj : j < k) (h : j < L'.length), okRun L'[j].d (evsOf rs) L'[j].D = true) ∧ Hid (SlR RRec wr (Out (NewS S p' vv L') wr) A n c rs)) (fun i _ => n' - (intOf i).toNat)
  case atStart => exact ⟨0, by omega, rfl, by rw [doneP_zero]; exact Hpcs, HE, HRow, B0, Nat.le_refl _, fun j hj => by omega, Hr1⟩
  case round =>
    obtain ⟨k, hk, rfl, HP, HE2, HRw, HC, Hsz, HN, Hrr⟩ := hrel
    have b0 := HC.out
    by_cases hlt : k < n'
    · have hkx : k < L'.length := by have := Hln.out; omega
      have hkl : k < L.length := by have := Hvg.out.1; have := Hln.out; omega
      have hlt' : (k : Int) < (n' : Int) := by omega
      have hk00 : ¬ ((k : Int) < 0) := by omega
      have hk0 : (0 : Int) ≤ (k : Int) := by omega
      obtain ⟨b, o, rfl, hbF, f0⟩ := ptr_at HRw.out k (by rw [List.length_map]; exact hkx)
      rw [List.getElem_map] at f0
      have hdl : k < (doneP (evsOf rs) k L').length := by rw [length_doneP]; exact hkx
      have hx := HP.out.each _ (List.getElem_mem hdl)
      rw [doneP_at (evsOf rs) hkx] at hx
      have hfx := Hf.out _ (List.getElem_mem hkl)
      have hox := Hok.out _ (List.getElem_mem hkl)
      have hvx := Hvg.out.2 k hkx hkl
      rw [← hvx.1, ← hvx.2] at hfx hox
      have hbl : Blk L' L'[k].s := ⟨_, List.getElem_mem hkx, .inl rfl⟩
      have Hbl := hid hbl
      have Hput := hid (doneP_put (evsOf rs) hkx)
      have Hat := hid (doneP_at (evsOf rs) hkx)
      have Hno := hid (fun h => okAll_no (es := evsOf rs) hkx h)
      have Hnx := hid (show okRun L'[k].d (evsOf rs) L'[k].D = true → ∀ j (hj : j < k + 1) (h : j < L'.length), okRun L'[j].d (evsOf rs) L'[j].D = true from fun h0 j hj h => by
        rcases Nat.lt_succ_iff_lt_or_eq.1 hj with h' | rfl
        · exact HN.out j h' h
        · exact h0)
      have Hdl := hid hdl
      have Hkx := hid hkx
      have Hx := hid hx.st
      have Hms := hid hx.eq
      have HbF := hid hbF
      have Hox := hid hox
      have HF := hid (RunFit.at_ (es := evsOf rs) (by rw [Hel.out]; exact hfx) Hs.out)
      have Hfl := hid hfx
      have Hsl := hid (show w.heap.size ≤ L'[k].s from (Hlt.out _ (.inr (.inr (.inl Hbl.out)))).1)
      have HxS := hid hx.sIn
      clear hx hfx hvx hbl HN hdl hox hbF
      have Hf0 := hid f0
      -- the records, one by one
      generalize hst : L'[k] = st at *
      have Hst := hid hst
      clear hst f0
      obtain ⟨s, m, d, D⟩ := st
      dsimp only at Hat Hput Hx Hms Hox HF Hfl Hno Hnx Hsl HxS Hbl Hf0 ⊢
      go_wp2_with fail
      clear b0
      obtain ⟨W0, hW0⟩ : ∃ W, W = wr := ⟨_, rfl⟩
      subst hW0
      go_loopw [7] (fun i wi => ∃ j : Nat, j ≤ n ∧ i = .int .i64 (j : Int) ∧ Hid (RefSt wi (NewS S p' vv L') s d (foldE d D ((evsOf rs).take j))) ∧ Hid (SlR RRec wi (Out (NewS S p' vv L') wi) A n c rs) ∧ Hid (Kept2 s s W0 wi) ∧ Hid (∀ i (hi : i < j) (h : i < (evsOf rs).length), (StepF d (evsOf rs)[i] (foldE d D ((evsOf rs).take i))).1 = 0)) (fun i _ => n - (intOf i).toNat)
      case atStart => exact ⟨0, by omega, rfl, Hx, Hrr, Kept2.refl _ _ _, fun j hj => by omega⟩
      case round =>
        obtain ⟨j, hj, rfl, HSj, HRj, HKj, HNj⟩ := hrel
        by_cases hjn : j < n
        · have hjx : j < rs.length := by have := hn.out; omega
          have hje : j < (evsOf rs).length := by have := Hel.out; omega
          have hjn' : (j : Int) < (n : Int) := by omega
          have hj00 : ¬ ((j : Int) < 0) := by omega
          have hj0 : (0 : Int) ≤ (j : Int) := by omega
          obtain ⟨rb, ro, T, a, U, u, rfl, -, f0, f1, f2, f3, f4, f5, s1, s2, ht, hu⟩ := rec_at HRj.out j hjx
          have hge : (evsOf rs)[j] = rs[j].2.2 := List.getElem_map (fun r : Int × Int × EvV => r.2.2)
          have Hft := hid (HF.out j (by omega))
          have Hse := hid (Hs.out _ (List.getElem_mem hje))
          have Hda := hid (foldE_take d D hje)
          have HnoR := hid (okRun_no (d := d) (D := D) hje)
          have HnxR := hid (show (StepF d (evsOf rs)[j] (foldE d D ((evsOf rs).take j))).1 = 0 → ∀ i (hi : i < j + 1) (h : i < (evsOf rs).length), (StepF d (evsOf rs)[i] (foldE d D ((evsOf rs).take i))).1 = 0 from fun h0 i hi h => by
            rcases Nat.lt_succ_iff_lt_or_eq.1 hi with h' | rfl
            · exact HNj.out i h' h
            · exact h0)
          rw [hge] at Hda HnoR HnxR Hse
          have HOkj := hid (okR_fold (d := d) ((evsOf rs).take j) Hox.out.1)
          have hb1 := HKj.out.block p' (Nat.lt_of_lt_of_le Hp'.out.2 Hsz.out) (fun e => Hfree.out (e ▸ Hbl.out)) (fun e => Hfree.out (e ▸ Hbl.out))
          have hb2 := HKj.out.block b HbF.out.1.1 (fun e => HbF.out.1.2.2 (e ▸ Hbl.out)) (fun e => HbF.out.1.2.2 (e ▸ Hbl.out))
          have g0 : wr.cell? ⟨p', 0, none⟩ = some (.slice (some ⟨b, o, none⟩) n' c') := by
            have e : wr.cell? ⟨p', 0, none⟩ = W0.cell? ⟨p', 0, none⟩ := by unfold World.cell?; dsimp only; rw [hb1]
            rw [e]; exact HC.out
          have g1 : wr.cell? ⟨b, o + k, none⟩ = some (.pointer (some ⟨s, 0, none⟩)) := by
            have e : wr.cell? ⟨b, o + k, none⟩ = W0.cell? ⟨b, o + k, none⟩ := by unfold World.cell?; dsimp only; rw [hb2]
            rw [e]; exact Hf0.out
          clear hge HNj hb1 hb2
          generalize rs[j] = r at *
          obtain ⟨ps, vr, e⟩ := r
          dsimp only at f0 f1 f2 f3 f4 f5 s1 s2 ht hu Hda HnoR HnxR Hse ⊢
          have Hev := hid (show EvS wr (NewS S p' vv L') T e.tags.length a U e.fields.length u e from ⟨s1, s2, ht, hu⟩)
          clear s1 s2 ht hu
          generalize e.tags.length = tl at *
          generalize e.fields.length = ul at *
          have Hc := hid (And.intro g0 (And.intro g1 (And.intro f0 (And.intro f1 (And.intro f2 (And.intro f3 (And.intro f4 f5)))))))
          clear g0 g1 f0 f1 f2 f3 f4 f5
          go_wp2_with fail
          apply wp_drawn_last 11 [isV _, isV _, isV _, isV (.slice (some ⟨b, o, none⟩) n' c'), isV _, isV _, isV (.pointer (some ⟨s, 0, none⟩)), isV _, isV _, isV _, isV (.agg #[.int .i64 ps, .int .i64 vr, .string (str e.st), .string (str e.ty), .slice T tl a, .slice U ul u])] (by decide) (by kernel_rfl)
          · kernel_rfl
          · kernel_rfl
          · refine ⟨?aps0, ?aps1, ?aps2, ?aps3, ?aps4, ?aps5, ?aps6, ?aps7, ?aps8, ?aps9, ?aps10, trivial⟩
            case aps0 =>
              intro v W hE hd; simp only [Region.wanted, ↓reduceIte]; (try simp [deps, waitsOn, Region.binds, knowing, isV, ownsV, anyV] at hd); simp only [putAll, List.take_succ_cons, List.take_zero, List.drop_succ_cons, List.drop_zero, Act.put, List.setIfInBounds_toArray, List.set_cons_zero, List.set_cons_succ, Nat.zero_add, Nat.reduceAdd]; go_simp; exact ⟨Below.refl _ _, rfl⟩
            case aps1 =>
              intro v W hE hd; simp only [Region.wanted, ↓reduceIte]; (try simp [deps, waitsOn, Region.binds, knowing, isV, ownsV, anyV] at hd); simp only [putAll, List.take_succ_cons, List.take_zero, List.drop_succ_cons, List.drop_zero, Act.put, List.setIfInBounds_toArray, List.set_cons_zero, List.set_cons_succ, Nat.zero_add, Nat.reduceAdd]; go_simp; exact ⟨Below.refl _ _, rfl⟩
            case aps2 =>
              intro v W hE hd; simp only [Region.wanted, ↓reduceIte]; (try simp [deps, waitsOn, Region.binds, knowing, isV, ownsV, anyV] at hd); simp only [putAll, List.take_succ_cons, List.take_zero, List.drop_succ_cons, List.drop_zero, Act.put, List.setIfInBounds_toArray, List.set_cons_zero, List.set_cons_succ, Nat.zero_add, Nat.reduceAdd]; go_simp; exact ⟨Below.refl _ _, rfl⟩
            case aps3 =>
              intro v W hE hd; simp only [Region.wanted, ↓reduceIte]; (try simp [deps, waitsOn, Region.binds, knowing, isV, ownsV, anyV] at hd); simp only [putAll, List.take_succ_cons, List.take_zero, List.drop_succ_cons, List.drop_zero, Act.put, List.setIfInBounds_toArray, List.set_cons_zero, List.set_cons_succ, Nat.zero_add, Nat.reduceAdd]
              have g0 := cell_below hE Hc.out.1
              go_simp
              exact ⟨Below.refl _ _, rfl⟩
            case aps4 =>
              intro v W hE hd; simp only [Region.wanted, ↓reduceIte]; (try simp [deps, waitsOn, Region.binds, knowing, isV, ownsV, anyV] at hd); simp only [putAll, List.take_succ_cons, List.take_zero, List.drop_succ_cons, List.drop_zero, Act.put, List.setIfInBounds_toArray, List.set_cons_zero, List.set_cons_succ, Nat.zero_add, Nat.reduceAdd]; go_simp; exact ⟨Below.refl _ _, rfl⟩
            case aps5 =>
              intro v W hE hd; simp only [Region.wanted, ↓reduceIte]; (try simp [deps, waitsOn, Region.binds, knowing, isV, ownsV, anyV] at hd); simp only [putAll, List.take_succ_cons, List.take_zero, List.drop_succ_cons, List.drop_zero, Act.put, List.setIfInBounds_toArray, List.set_cons_zero, List.set_cons_succ, Nat.zero_add, Nat.reduceAdd]; go_simp; exact ⟨Below.refl _ _, rfl⟩
            case aps6 =>
              intro v W hE hd; simp only [Region.wanted, ↓reduceIte]; (try simp [deps, waitsOn, Region.binds, knowing, isV, ownsV, anyV] at hd); simp only [putAll, List.take_succ_cons, List.take_zero, List.drop_succ_cons, List.drop_zero, Act.put, List.setIfInBounds_toArray, List.set_cons_zero, List.set_cons_succ, Nat.zero_add, Nat.reduceAdd]
              have g1 := cell_below hE Hc.out.2.1
              go_simp
              exact ⟨Below.refl _ _, rfl⟩
            case aps7 =>
              intro v W hE hd; simp only [Region.wanted, ↓reduceIte]; (try simp [deps, waitsOn, Region.binds, knowing, isV, ownsV, anyV] at hd); simp only [putAll, List.take_succ_cons, List.take_zero, List.drop_succ_cons, List.drop_zero, Act.put, List.setIfInBounds_toArray, List.set_cons_zero, List.set_cons_succ, Nat.zero_add, Nat.reduceAdd]; go_simp; exact ⟨Below.refl _ _, rfl⟩
            case aps8 =>
              intro v W hE hd; simp only [Region.wanted, ↓reduceIte]; (try simp [deps, waitsOn, Region.binds, knowing, isV, ownsV, anyV] at hd); simp only [putAll, List.take_succ_cons, List.take_zero, List.drop_succ_cons, List.drop_zero, Act.put, List.setIfInBounds_toArray, List.set_cons_zero, List.set_cons_succ, Nat.zero_add, Nat.reduceAdd]; go_simp; exact ⟨Below.refl _ _, rfl⟩
            case aps9 =>
              intro v W hE hd; simp only [Region.wanted, ↓reduceIte]; (try simp [deps, waitsOn, Region.binds, knowing, isV, ownsV, anyV] at hd); simp only [putAll, List.take_succ_cons, List.take_zero, List.drop_succ_cons, List.drop_zero, Act.put, List.setIfInBounds_toArray, List.set_cons_zero, List.set_cons_succ, Nat.zero_add, Nat.reduceAdd]; go_simp; exact ⟨Below.refl _ _, rfl⟩
            case aps10 =>
              intro v W hE hd; simp only [Region.wanted, ↓reduceIte]; (try simp [deps, waitsOn, Region.binds, knowing, isV, ownsV, anyV] at hd); simp only [putAll, List.take_succ_cons, List.take_zero, List.drop_succ_cons, List.drop_zero, Act.put, List.setIfInBounds_toArray, List.set_cons_zero, List.set_cons_succ, Nat.zero_add, Nat.reduceAdd]
              obtain ⟨-, -, f0, f1, f2, f3, f4, f5⟩ := Hc.out
              have f0 := cell_below hE f0; have f1 := cell_below hE f1; have f2 := cell_below hE f2; have f3 := cell_below hE f3; have f4 := cell_below hE f4; have f5 := cell_below hE f5
              go_simp
              exact ⟨Below.refl _ _, rfl⟩
          · rintro v W9 hE ⟨-, -, -, -, -, -, e6, -, -, -, e10, -⟩
            have e6 := (show v 6 = _ from e6)
            have e10 := (show v 10 = _ from e10)
            simp only [putAll, List.take_succ_cons, List.take_zero, List.drop_succ_cons, List.drop_zero, Act.put, List.setIfInBounds_toArray, List.set_cons_zero, List.set_cons_succ, Nat.zero_add, Nat.reduceAdd]
            rw [e6, e10]
            have hstp := refStep_at (p := ps) (vr := vr) (HSj.out.ext hE) (Hev.out.ext hE) Hse.out (by have h1 := Hft.out.1; have h2 := Hfl.out.len; have h3 := hn.out; omega) (Hft.out.2.le (by have h1 := Hfl.out.hi; have h3 := hn.out; omega)) HOkj.out Hox.out.2 (fun i hi => by have := HSlt.out i hi; have := Hsz.out; have := HKj.out.size; have := hE.size; omega)
            unfold recVal at hstp
            have HKE := hid (Kept2.of_ext (d := s) (m := s) hE)
            have HRE := hid (slR_more HRj.out hE (S' := NewS S p' vv L') (fun _ hk => .inl hk))
            clear e6 e10 hE
            go_wp2_with fail
            refine hstp.mono ?_
            clear hstp
            rintro x w2 ⟨rfl, hS2, hK2⟩
            have hse := step_err d e (foldE d D ((evsOf rs).take j))
            have HS2 := hid hS2
            have HR2 := hid (slR_kept HRE.out hK2 HxS.out HxS.out)
            have HK2 := hid ((HKj.out.trans HKE.out).trans hK2)
            clear hS2 hK2
            rcases hse with h0 | h4
            · have hn2 := hid (HnxR.out h0)
              rw [h0]
              clear h0
              go_wp2_with fail
              go_roundw
              case rel => exact ⟨j + 1, by omega, by go_num, by rw [Hda.out]; exact HS2, HR2, HK2, hn2⟩
              case measure => simp [intOf]; omega
            · have hno := hid (HnoR.out (by rw [h4]; decide))
              have hno2 := hid (show okAll (evsOf rs) (viewP L) = false from by rw [← Hview.out]; exact Hno.out hno.out)
              rw [h4]
              clear h4
              have HKE2 := hid (show Ext w w2 from HE2.out.trans (HK2.out.below Hsl.out Hsl.out HE2.out.size))
              have hpost := hid (show SDidIs w S p L (evsOf rs) (.returned (.int .i64 4)) w2 from ⟨Kept2.of_ext HKE2.out, .inr ⟨hno2.out, rfl, HKE2.out⟩⟩)
              go_wp2
              go_ret
              exact hpost.out
        · obtain rfl : j = n := by omega
          have hjn' : ¬ ((j : Int) < (j : Int)) := by omega
          have hall : (evsOf rs).take j = evsOf rs := List.take_of_length_le (by rw [Hel.out, ← hn.out]; exact Nat.le_refl _)
          have hokr := hid (Hnx.out (okRun_yes fun i hi => HNj.out i (by rw [Hel.out, ← hn.out] at hi; exact hi) hi))
          rw [hall] at HSj
          have hP2 : ScsIs wr (NewS S p' vv L') (doneP (evsOf rs) (k + 1) L') := by
            have h1 := HP.out.step (i := k) Hdl.out (D' := foldE d D (evsOf rs)) (w' := wr) (by rw [Hat.out]; exact ⟨HSj.out, Hms.out⟩) (by rw [Hat.out]; dsimp only; rw [Hms.out]; exact HKj.out)
            rw [Hput.out] at h1
            exact h1
          have HP2 := hid hP2
          have HKE := hid (show Ext w wr from HE2.out.trans (HKj.out.below Hsl.out Hsl.out HE2.out.size))
          have hRw2 : SlR Rep.ptr wr (fun j => Free L' p' wr j ∧ w.heap.size ≤ j) (some ⟨b, o, none⟩) n' c' (L'.map (·.s)) := (HRw.out.ext fun j hj => HKj.out.block j hj.1.1 (fun e => hj.1.2.2 (e ▸ Hbl.out)) (fun e => hj.1.2.2 (e ▸ Hbl.out))).mono fun j hj => ⟨⟨Nat.lt_of_lt_of_le hj.1.1 HKj.out.size, hj.1.2⟩, hj.2⟩
          have hC2 : wr.cell? ⟨p', 0, none⟩ = some (.slice (some ⟨b, o, none⟩) n' c') := by
            have hb2 := HKj.out.block p' (Nat.lt_of_lt_of_le Hp'.out.2 Hsz.out) (fun e => Hfree.out (e ▸ Hbl.out)) (fun e => Hfree.out (e ▸ Hbl.out))
            have e : wr.cell? ⟨p', 0, none⟩ = W0.cell? ⟨p', 0, none⟩ := by unfold World.cell?; dsimp only; rw [hb2]
            rw [e]; exact HC.out
          have HRw2 := hid hRw2; have HC2 := hid hC2; have Hsz2 := hid (Nat.le_trans Hsz.out HKj.out.size)
          clear hP2 hRw2 hC2 hall
          go_wp2_with fail
          go_roundw
          case rel => exact ⟨k + 1, by omega, by go_num, HP2, HKE, HRw2, HC2, Hsz2, hokr, HRj⟩
          case measure => simp [intOf]; omega
    · obtain rfl : k = n' := by omega
      have hlt' : ¬ ((k : Int) < (k : Int)) := by omega
      have hok := hid (show okAll (evsOf rs) (viewP L) = true from by rw [← Hview.out]; exact okAll_yes fun i hi => HN.out i (by have := Hln.out; omega) hi)
      have hvd := hid (show viewP (doneP (evsOf rs) k L') = runAll (evsOf rs) (viewP L) from by rw [doneP_all (evsOf rs) (by have := Hln.out; omega), Hview.out])
      obtain ⟨A0, c0, hc0, -⟩ := HSet.out.row
      have hpl := HSet.out.lt
      have hcw : wr.heap[p]? = some (.cells #[.slice A0 L.length c0] 153) := (HE2.out.block p hpl).trans hc0
      have g1 : wr.cell? ⟨p, 0, none⟩ = some (.slice A0 L.length c0) := by rw [cell_of_row _ _ _ _ _ _ hcw]; rfl
      have g2 : wr.frozen? ⟨p, 0, none⟩ = false := by simp [World.frozen?, hcw]
      have hkp : Kept2 p p wr (wr.setCell ⟨p, 0, none⟩ (.slice A' k c')) := ⟨rfl, rfl, rfl, by simp, fun j hj h1 _ => heap_setCell_other wr ⟨p, 0, none⟩ j _ (fun e => h1 e)⟩
      have hdlen : (doneP (evsOf rs) k L').length = k := by rw [length_doneP]; exact Hln.out
      have hnb : ¬ Blk (doneP (evsOf rs) k L') p := fun hb => by
        have := (Hlt.out p (.inr (.inr (.inl ((doneP_blk _ _ _ _).1 hb))))).1
        omega
      have hLo : SRowLo (wr.setCell ⟨p, 0, none⟩ (.slice A' k c')) w.heap.size p (doneP (evsOf rs) k L') := by
        refine ⟨A', c', ?_, ?_⟩
        · rw [hdlen]; exact heap_setCell_row hcw _
        · rw [hdlen, doneP_s]
          exact (HRw.out.ext fun j hj => hkp.block j hj.1.1 (by have := hj.2; omega) (by have := hj.2; omega)).mono fun j hj => ⟨⟨Nat.lt_of_lt_of_le hj.1.1 hkp.size, by have := hj.2; omega, fun hb => hj.1.2.2 ((doneP_blk _ _ _ _).1 hb)⟩, hj.2⟩
      have hSet : RSetIs (wr.setCell ⟨p, 0, none⟩ (.slice A' k c')) (NewS S p' vv L') p (doneP (evsOf rs) k L') := by
        obtain ⟨A2, c2, q1, q2⟩ := hLo.row
        exact ⟨⟨A2, c2, q1, q2.mono fun j hj => hj.1⟩, HP.out.kept hkp (.inr (.inr (.inr HSet.out.pIn))) (.inr (.inr (.inr HSet.out.pIn))) hnb hnb, .inr (.inr (.inr HSet.out.pIn)), hnb⟩
      have hpost := hid (show SDidIs w S p L (evsOf rs) (.returned (.int .i64 0)) (wr.setCell ⟨p, 0, none⟩ (.slice A' k c')) from
        ⟨(Kept2.of_ext HE2.out).trans hkp, .inl ⟨hok.out, rfl, _, _, hSet, hvd.out, fun j hj => by
          have h1 := hkp.size; have h2 := Hsz.out
          rcases hj with hj | hj | hj | hj
          · have := Hlt.out j (.inl hj); exact ⟨.inr this.1, by omega⟩
          · have := Hlt.out j (.inr (.inl hj)); exact ⟨.inr this.1, by omega⟩
          · have := Hlt.out j (.inr (.inr (.inl hj))); exact ⟨.inr this.1, by omega⟩
          · have := HS.out j hj; have := HE2.out.size; exact ⟨.inl hj, by omega⟩, fun j hj => .inr (.inr (.inr hj)), hLo, fun j hj => (Hlt.out j (.inr (.inr (.inl ((doneP_blk _ _ _ _).1 hj))))).1⟩⟩)
      clear hSet hkp hcw hc0 hdlen hnb hLo
      go_wp2
      go_ret
      exact hpost.out
end Go.Proofs.YtakebdeldndaaaaGreatDoor

