/- proj.New. -/
import Derived.Test.YtakebdeldndaaaaGreatDoorQcb
import Derived.Test.YtakebdeldndaaaaGreatDoorPj
namespace Go.Proofs.YtakebdeldndaaaaGreatDoor
open Go Go.RowKit
set_option linter.unusedSimpArgs false
set_option linter.unusedVariables false
theorem ptrinfo : SlInfo Tryz.prog 124 134 (.pointer none) Rep.ptr.size 8 := ⟨Tryz.underlying124, by kernel_rfl, rfl, by decide⟩
def NewS (X : Nat → Prop) (p : Nat) (v : Value) (L : List Pc) (k : Nat) : Prop := k = p ∨ v.ownBlock = some k ∨ Blk L k ∨ X k
structure NewIs (X : Nat → Prop) (n0 p : Nat) (V : List (DefV × Ents)) (v : Value) (L : List Pc) (wr : World) : Prop where
  cell : wr.heap[p]? = some (.cells #[v] 126)
  own : OwnK Rep.ptr 134 (fun _ => False) wr n0 v (L.map (·.s))
  pcs : PcsIs wr (NewS X p v L) L
  view : viewP L = V
  lo : (∀ k, Blk L k → n0 ≤ k) ∧ n0 ≤ p
  xlo : ∀ k, X k → k < n0
  free : ¬ Blk L p ∧ (∀ k, v.ownBlock = some k → ¬ Blk L k ∧ k ≠ p)
section
variable {X : Nat → Prop} {n0 p : Nat} {V : List (DefV × Ents)} {v v' : Value} {L : List Pc} {w w' : World}
theorem NewIs.ownLt (h : NewIs X n0 p V v L w) (k : Nat) (hk : v.ownBlock = some k) : n0 ≤ k ∧ k < w.heap.size := by
  obtain ⟨cs, ho, -⟩ := h.own
  exact World.ownsRow.lt ho k hk
theorem NewIs.pLt (h : NewIs X n0 p V v L w) : p < w.heap.size := (Array.getElem?_eq_some_iff.1 h.cell).1
theorem NewIs.lt (h : NewIs X n0 p V v L w) (k : Nat) (hk : NewS (fun _ => False) p v L k) : n0 ≤ k ∧ k < w.heap.size := by
  rcases hk with rfl | hk | hk | hk
  · exact ⟨h.lo.2, h.pLt⟩
  · exact h.ownLt k hk
  · exact ⟨h.lo.1 k hk, (h.pcs.lt hk).1⟩
  · exact hk.elim
theorem NewIs.ext (h : NewIs X n0 p V v L w) (hE : Ext w w') : NewIs X n0 p V v L w' :=
  ⟨(hE.block p h.pLt).trans h.cell, h.own.ext hE fun _ hk => hk.elim, h.pcs.ext hE, h.view, h.lo, h.xlo, h.free⟩
structure PreIs (X : Nat → Prop) (n0 p : Nat) (V : List (DefV × Ents)) (v : Value) (L : List Pc) (wr : World) : Prop where
  own : OwnK Rep.ptr 134 (fun _ => False) wr n0 v (L.map (·.s))
  pcs : PcsIs wr (NewS X p v L) L
  view : viewP L = V
  lo : (∀ k, Blk L k → n0 ≤ k) ∧ n0 ≤ p ∧ p < wr.heap.size
  xlo : ∀ k, X k → k < n0
  free : ¬ Blk L p ∧ (∀ k, v.ownBlock = some k → ¬ Blk L k ∧ k ≠ p)
theorem PreIs.ext (h : PreIs X n0 p V v L w) (hE : Ext w w') : PreIs X n0 p V v L w' :=
  ⟨h.own.ext hE fun _ hk => hk.elim, h.pcs.ext hE, h.view, ⟨h.lo.1, h.lo.2.1, Nat.lt_of_lt_of_le h.lo.2.2 hE.size⟩, h.xlo, h.free⟩
theorem PreIs.kept (h : PreIs X n0 p V v L w) (hk : Kept2 p p w w') : PreIs X n0 p V v L w' :=
  ⟨h.own.kept (row := some p) ⟨hk.os, hk.tape, hk.output, hk.size, fun k hk' hne => hk.block k hk' (fun e => hne (by rw [e])) (fun e => hne (by rw [e]))⟩ (.inr fun e => (h.free.2 p e).2 rfl) fun k hk => hk.elim,
   h.pcs.kept hk (.inl rfl) (.inl rfl) h.free.1 h.free.1, h.view, ⟨h.lo.1, h.lo.2.1, Nat.lt_of_lt_of_le h.lo.2.2 hk.size⟩, h.xlo, h.free⟩
theorem PreIs.store (h : PreIs X n0 p V v' L w) (hc : w.heap[p]? = some (.cells #[v] 126)) : NewIs X n0 p V v' L (w.setCell ⟨p, 0, none⟩ v') := by
  have hkp : Kept2 p p w (w.setCell ⟨p, 0, none⟩ v') := ⟨rfl, rfl, rfl, by simp, fun k hk h1 _ => heap_setCell_other w ⟨p, 0, none⟩ k _ (fun e => h1 e)⟩
  have h2 := h.kept hkp
  exact ⟨heap_setCell_row hc _, h2.own, h2.pcs, h2.view, ⟨h2.lo.1, h2.lo.2.1⟩, h2.xlo, h2.free⟩
theorem NewIs.pre {x : Pc} {w2 w3 : World} (h : NewIs X n0 p V v L w) (hE : Ext w w2) (hx : w.heap.size ≤ x.s ∧ w.heap.size ≤ x.m) (hxl : x.s < w2.heap.size ∧ x.m < w2.heap.size)
    (hN : ∀ S' : Nat → Prop, (∀ k, S' k → X k ∨ (n0 ≤ k ∧ k < w.heap.size) ∨ k = x.s ∨ k = x.m) → S' x.s → S' x.m → StIs w2 S' x.s x.m (kdVal x.d) x.d.q x.D)
    (ho : OwnK Rep.ptr 134 (fun _ => False) w3 n0 v' (L.map (·.s) ++ [x.s])) (hg : w2.grownBy w3 v.ownBlock) (hat : v'.ownBlock = v.ownBlock ∨ v'.ownBlock = some w2.heap.size) :
    PreIs X n0 p (V ++ [(x.d, x.D)]) v' (L ++ [x]) w3 ∧ w3.heap[p]? = some (.cells #[v] 126) := by
  have hpl := h.pLt
  have hsz := hE.size
  have hg3 := hg.size
  have hlow : n0 ≤ w.heap.size := Nat.le_trans h.lo.2 (Nat.le_of_lt hpl)
  have hns : ¬ Blk L x.s := fun hb => by have := (h.pcs.lt hb).1; omega
  have hnm : ¬ Blk L x.m := fun hb => by have := (h.pcs.lt hb).1; omega
  have hfp : ¬ Blk (L ++ [x]) p := fun hb => by
    rcases Blk.snoc.1 hb with hb | hb | hb
    · exact h.free.1 hb
    · omega
    · omega
  -- with the new state, in w2
  have h1 : PcsIs w2 (NewS X p v (L ++ [x])) (L ++ [x]) := by
    refine (h.pcs.more hE (fun k hk => ?_) fun k hk => ?_).snoc (hN _ (fun k hk => ?_) (.inr (.inr (.inl (Blk.snoc.2 (.inr (.inl rfl)))))) (.inr (.inr (.inl (Blk.snoc.2 (.inr (.inr rfl))))))) hns hnm
    · rcases hk with hk | hk | hk | hk
      · exact .inl (.inl hk)
      · exact .inl (.inr (.inl hk))
      · rcases Blk.snoc.1 hk with hk | hk | hk
        · exact .inl (.inr (.inr (.inl hk)))
        · right; omega
        · right; omega
      · exact .inl (.inr (.inr (.inr hk)))
    · rcases hk with hk | hk | hk | hk
      · exact .inl hk
      · exact .inr (.inl hk)
      · exact .inr (.inr (.inl (Blk.snoc.2 (.inl hk))))
      · exact .inr (.inr (.inr hk))
    · rcases hk with rfl | hk | hk | hk
      · exact .inr (.inl ⟨h.lo.2, hpl⟩)
      · exact .inr (.inl (h.ownLt k hk))
      · rcases Blk.snoc.1 hk with hk | hk | hk
        · exact .inr (.inl ⟨h.lo.1 k hk, (h.pcs.lt hk).1⟩)
        · exact .inr (.inr (.inl hk))
        · exact .inr (.inr (.inr hk))
      · exact .inl hk
  have hfo : ∀ k, v.ownBlock = some k → ¬ Blk (L ++ [x]) k ∧ k ≠ p := fun k hk => by
    have h2 := h.free.2 k hk
    have h3 := h.ownLt k hk
    refine ⟨fun hb => ?_, h2.2⟩
    rcases Blk.snoc.1 hb with hb | hb | hb
    · exact h2.1 hb
    · omega
    · omega
  -- behind the append
  have h2 : PcsIs w3 (NewS X p v (L ++ [x])) (L ++ [x]) := by
    cases hb : v.ownBlock with
    | none =>
      rw [hb] at hg
      exact h1.ext ⟨hg.os, hg.tape, hg.output, hg.size, fun k hk => hg.block k hk (by simp)⟩
    | some g =>
      rw [hb] at hg
      have hk : Kept2 g g w2 w3 := Kept2.of_grown hg (.inl rfl)
      exact h1.kept hk (.inr (.inl hb)) (.inr (.inl hb)) (hfo g hb).1 (hfo g hb).1
  have hfo' : ∀ k, v'.ownBlock = some k → ¬ Blk (L ++ [x]) k ∧ k ≠ p := fun k hk => by
    rcases hat with e | e
    · rw [e] at hk; exact hfo k hk
    · rw [e] at hk
      obtain rfl := Option.some.inj hk
      exact ⟨fun hb => by have := (h1.lt hb).1; omega, by omega⟩
  have hown' : ∀ k, v'.ownBlock = some k → k < w3.heap.size := fun k hk => by
    obtain ⟨cs, ho', -⟩ := ho
    exact (World.ownsRow.lt ho' k hk).2
  -- the row's block may be another
  have h3 : PcsIs w3 (NewS X p v' (L ++ [x])) (L ++ [x]) := by
    have hb2 : ∀ k, NewS X p v' (L ++ [x]) k → NewS X p v (L ++ [x]) k ∨ w2.heap.size ≤ k := fun k hk => by
      rcases hk with hk | hk | hk | hk
      · exact .inl (.inl hk)
      · rcases hat with e | e
        · rw [e] at hk; exact .inl (.inr (.inl hk))
        · rw [e] at hk; obtain rfl := Option.some.inj hk; right; exact Nat.le_refl _
      · exact .inl (.inr (.inr (.inl hk)))
      · exact .inl (.inr (.inr (.inr hk)))
    -- from w2, where the other block is new
    have h1' : PcsIs w2 (fun k => NewS X p v (L ++ [x]) k ∨ NewS X p v' (L ++ [x]) k) (L ++ [x]) := h1.more (Below.refl _ _) (fun k hk => hk.elim .inl (hb2 k)) fun k hk => .inl hk
    have h2' : PcsIs w3 (fun k => NewS X p v (L ++ [x]) k ∨ NewS X p v' (L ++ [x]) k) (L ++ [x]) := by
      cases hb : v.ownBlock with
      | none =>
        rw [hb] at hg
        exact h1'.ext ⟨hg.os, hg.tape, hg.output, hg.size, fun k hk => hg.block k hk (by simp)⟩
      | some g =>
        rw [hb] at hg
        exact h1'.kept (Kept2.of_grown hg (.inl rfl) : Kept2 g g w2 w3) (.inl (.inr (.inl hb))) (.inl (.inr (.inl hb))) (hfo g hb).1 (hfo g hb).1
    exact h2'.less (fun k hk => .inr hk) fun k hk => .inr (.inr (.inl hk))
  have hcell3 : w3.heap[p]? = some (.cells #[v] 126) := by
    rw [hg.block p (by omega) fun e => (h.free.2 p e.symm).2 rfl, hE.block p hpl, h.cell]
  refine ⟨⟨by rw [List.map_append]; exact ho, h3, by unfold viewP; rw [List.map_append, ← h.view]; rfl, ⟨fun k hk => ?_, h.lo.2, by omega⟩, h.xlo, hfp, hfo'⟩, hcell3⟩
  rcases Blk.snoc.1 hk with hk | hk | hk
  · exact h.lo.1 k hk
  · omega
  · omega
theorem NewIs.snoc {x : Pc} {w2 w3 : World} (h : NewIs X n0 p V v L w) (hE : Ext w w2) (hx : w.heap.size ≤ x.s ∧ w.heap.size ≤ x.m) (hN : StNew w2 w.heap.size x.s x.m (kdVal x.d) x.d.q x.D)
    (ho : OwnK Rep.ptr 134 (fun _ => False) w3 n0 v' (L.map (·.s) ++ [x.s])) (hg : w2.grownBy w3 v.ownBlock) (hat : v'.ownBlock = v.ownBlock ∨ v'.ownBlock = some w2.heap.size) :
    NewIs X n0 p (V ++ [(x.d, x.D)]) v' (L ++ [x]) (w3.setCell ⟨p, 0, none⟩ v') :=
  let h2 := h.pre hE hx hN.lt (fun S' hS h1 h2 => hN.is (fun k hk => by
    rcases hS k hk with h3 | h3 | h3
    · left; have := h.xlo k h3; have := h.lo.2; have := h.pLt; omega
    · exact .inl h3.2
    · exact .inr h3) h1 h2) ho hg hat
  h2.1.store h2.2
end
structure Made2 (w : World) (xs : List DefV) (e : Ending) (w' : World) : Prop where
  ext : Ext w w'
  ans : (defsE xs ≠ 0 ∧ e = .returned (.tuple #[.pointer none, .int .i64 (defsE xs)])) ∨
    (defsE xs = 0 ∧ ∃ p L S, e = .returned (.tuple #[.pointer (some ⟨p, 0, none⟩), .int .i64 0]) ∧ SetIs w' S p L ∧ viewP L = xs.map (fun d => (d, [])) ∧ RowLo w' w.heap.size p L ∧ (∀ k, k < w.heap.size → S k) ∧ (∀ k, Blk L k ∨ k = p → w.heap.size ≤ k ∧ k < w'.heap.size))
theorem NewIs.rowLo {X : Nat → Prop} {n0 p : Nat} {V : List (DefV × Ents)} {v : Value} {L : List Pc} {w : World} (h : NewIs X n0 p V v L w) : ∃ A c, w.heap[p]? = some (.cells #[.slice A L.length c] 126) ∧ SlR Rep.ptr w (fun k => Free L p w k ∧ n0 ≤ k) A L.length c (L.map (·.s)) := by
  obtain ⟨A, c, cs, e, hc, hm, hr, hv⟩ := h.own.read
  have hl : (L.map (·.s)).length = L.length := List.length_map ..
  have hS : SlR Rep.ptr w (fun k => Free L p w k ∧ n0 ≤ k) A (L.map (·.s)).length c (L.map (·.s)) := by
    refine ⟨rfl, hc, hm, cs, hr.mono fun _ h => h.elim, ?_⟩
    rcases hv with h' | ⟨b, o, e', h'⟩
    · exact .inl h'
    · by_cases h0 : (L.map (·.s)).length = 0
      · left
        have := hr.len
        rw [h0, Nat.zero_mul] at this
        exact List.eq_nil_of_length_eq_zero this
      · have hb : v.ownBlock = some b := by rw [e, e']; rfl
        have := h.free.2 b hb
        exact .inr ⟨b, o, e', ⟨⟨(h.ownLt b hb).2, this.2, this.1⟩, (h.ownLt b hb).1⟩, h'⟩
  rw [hl] at hS e
  exact ⟨A, c, by rw [← e]; exact h.cell, hS⟩
theorem NewIs.done {X : Nat → Prop} {n0 p : Nat} {V : List (DefV × Ents)} {v : Value} {L : List Pc} {w : World} (h : NewIs X n0 p V v L w) : SetIs w (NewS X p v L) p L := by
  obtain ⟨A, c, h1, h2⟩ := h.rowLo
  exact ⟨⟨A, c, h1, h2.mono fun k hk => hk.1⟩, h.pcs, .inl rfl, h.free.1⟩
set_option maxRecDepth 100000 in
set_option maxHeartbeats 4000000 in
theorem projNew2_at {w : World} {A : Option Addr} {n c : Nat} {xs : List DefV} (hx : SlR RDef w (· < w.heap.size) A n c xs) :
    Calls Tryz.prog 44 #[.slice A n c] w fun e w' => Made2 w xs e w' := by
  have hn := hid hx.1
  have hnc := hx.2.1
  have hcm := hx.2.2.1
  have HX := hid hx
  have hpd := putDefs_at hx
  clear hx
  go_enter Tryz.func44, Tryz.ntmps44
  go_wp2_with fail
  refine hpd.mono ?_
  clear hpd
  rintro e w1 ⟨⟨v0, rfl⟩, hE⟩
  have HE1 := hid hE
  clear hE
  by_cases h0 : defsE xs = 0
  rotate_left
  · have hpost := hid (fun W (hE : Ext w W) => (⟨hE, .inl ⟨h0, rfl⟩⟩ : Made2 w xs (.returned (.tuple #[.pointer none, .int .i64 (defsE xs)])) W))
    have hx : (defsE xs != 0) = true := by simpa using h0
    have hx2 : (defsE xs == 0) = false := by simpa using h0
    clear h0
    go_wp2
    go_ret2
    exact hpost.out _ HE1.out
  rw [h0]
  obtain ⟨h4, hall⟩ := defsE_zero h0
  have H0 := hid h0
  have Hall := hid hall
  have hn4 : n ≤ 4 := by have := hn.out; omega
  clear h0 h4 hall
  have hE2 := ext_alloc w1 (.cells #[.slice none 0 0] 126)
  have HE2 := hid (HE1.out.trans' hE2)
  have hs1 := HE1.out.size
  have HI := hid (show NewIs (fun k => k < w.heap.size) w.heap.size w1.heap.size ((xs.take 0).map fun d => (d, [])) (.slice none 0 0) [] (w1.alloc (.cells #[.slice none 0 0] 126)) from
    ⟨heap_alloc_last _ _, OwnK.nil _ _, PcsIs.nil, rfl, ⟨fun k hk => (Blk.nil hk).elim, hs1⟩, fun k hk => hk, Blk.nil, fun k hk => by cases hk⟩)
  clear hE2 hs1
  go_wp2_with fail
  generalize w1.heap.size = p at *
  generalize w1.alloc (.cells #[.slice none 0 0] 126) = w2 at *
  go_loopw [23] (fun i wr => ∃ k : Nat, k ≤ n ∧ i = .int .i64 (k : Int) ∧ Hid (∃ v L, NewIs (fun k => k < w.heap.size) w.heap.size p ((xs.take k).map fun d => (d, [])) v L wr) ∧ Hid (Ext w wr)) (fun i _ => n - (intOf i).toNat)
  case atStart => exact ⟨0, by omega, rfl, ⟨_, _, HI.out⟩, HE2⟩
  case round =>
    obtain ⟨k, hk, rfl, HI', HE⟩ := hrel
    clear HI
    obtain ⟨v, L, hI⟩ := HI'.out
    have HI := hid hI
    clear hI HI'
    by_cases hlt : k < n
    · have hkx : k < xs.length := by have := hn.out; omega
      have hlt' : (k : Int) < (n : Int) := by omega
      have hk00 : ¬ ((k : Int) < 0) := by omega
      have hk0 : (0 : Int) ≤ (k : Int) := by omega
      obtain ⟨b, o, B1, d1, rfl, -, f0, f1, f2, -, hq⟩ := def_at (HX.out.grow HE.out) k hkx
      have hmay := Hall.out _ (List.getElem_mem hkx)
      have Hts := hid (show (xs.take (k + 1)).map (fun d => (d, ([] : Ents))) = (xs.take k).map (fun d => (d, [])) ++ [(xs[k], [])] by rw [List.take_succ_eq_append_getElem hkx, List.map_append]; rfl)
      have hE1 := ext_alloc wr (.cells #[.int .i64 xs[k].kind, .string (str xs[k].field), .slice B1 xs[k].q.length d1] 72)
      have hcc := foldNew_at (d := xs[k]) (hq.grow hE1)
      unfold defVal at hcc
      have HEb := hid hE1
      have HE1 := hid (HE.out.trans' hE1)
      have HIb := hid (HI.out.ext hE1)
      clear hE1 hq HI
      generalize xs[k] = t at *
      generalize t.q.length = ql at *
      go_wp2_with fail
      clear f0 f1 f2
      generalize wr.alloc (.cells #[.int .i64 t.kind, .string (str t.field), .slice B1 ql d1] 72) = wb at *
      refine hcc.mono ?_
      clear hcc
      rintro e w3 ⟨hE3, hres⟩
      rcases hres with ⟨h, -⟩ | ⟨-, s, m, rfl, hs, hm, hN⟩
      · exact absurd hmay h
      have HN := hid hN; have HE3 := hid hE3
      have HIc := hid (HIb.out.ext hE3)
      have hcell : w3.cell? ⟨p, 0, none⟩ = some v := by rw [cell_of_row _ _ _ _ _ _ HIc.out.cell]; rfl
      have hfz : w3.frozen? ⟨p, 0, none⟩ = false := by have := HIc.out.cell; simp [World.frozen?, this]
      have HEw := hid (HE1.out.trans' hE3)
      clear hN hE3 hmay
      have hE4 := ext_alloc w3 (.cells #[.pointer (some ⟨s, 0, none⟩)] 134)
      have Hbox := hid (show ∃ cs, Rows Rep.ptr (w3.alloc (.cells #[.pointer (some ⟨s, 0, none⟩)] 134)) (fun _ => False) [s] cs ∧ RV (w3.alloc (.cells #[.pointer (some ⟨s, 0, none⟩)] 134)) (some ⟨w3.heap.size, 0, none⟩) cs from ⟨_, Rows.single rfl, RV.box w3 _ _⟩)
      have HIx := hid (HIc.out.ext hE4)
      have HNx := hid (HN.out.ext hE4)
      have HEx := hid ((HE3.out).trans' hE4)
      have HEy := hid (HEw.out.trans' hE4)
      have HOx := hid HIx.out.own
      have hlx : (L.map (·.s)).length ≤ 4 := by
        have := congrArg List.length HIx.out.view
        unfold viewP at this
        rw [List.length_map, List.length_map, List.length_take] at this
        rw [List.length_map]; omega
      have hszx := HEw.out.size
      have hsm := hid (And.intro hs hm)
      clear hE4 hs hm HN HE3
      go_wp2_with (at_builtin; refine wpList_appK (w0 := w) (R := Rep.ptr) (xs := L.map (·.s)) (base := w.heap.size) ptrinfo rfl (.tmp 39) (.tmp 41) rfl rfl HOx (fun _ h => h.elim) HEy (by simp; omega) (some ⟨w3.heap.size, 0, none⟩) 1 1 [s] rfl rfl Hbox (by omega) (by omega) ?_; intro v2 W2 HA2 HB2 HG2; obtain ⟨A2, l2, c2, rfl⟩ : ∃ A l c, v2 = .slice A l c := (let ⟨A, c, _, e, _⟩ := HA2.out.read; ⟨A, _, c, e⟩); have HF2 := hid (HIb.out.snoc (x := ⟨s, m, t, []⟩) HEx.out hsm.out HNx.out HA2.out HG2.out.grown HG2.out.at_); clear hcell hfz; have hcell : W2.cell? ⟨p, 0, none⟩ = some v := (by have hp := HIx.out.pLt; have hb := HG2.out.grown.block p hp (fun e => (HIx.out.free.2 p e.symm).2 rfl); rw [cell_of_row _ _ _ _ _ _ (hb.trans HIx.out.cell)]; rfl); have hfz : W2.frozen? ⟨p, 0, none⟩ = false := (by have hp := HIx.out.pLt; have hb := (HG2.out.grown.block p hp (fun e => (HIx.out.free.2 p e.symm).2 rfl)).trans HIx.out.cell; simp [World.frozen?, hb]))
      have HEz := hid (show Ext w (W2.setCell ⟨p, 0, none⟩ (.slice A2 l2 c2)) from HB2.out.setCell HIx.out.lo.2 _)
      go_roundw
      case rel => exact ⟨k + 1, by omega, by go_num, by rw [Hts.out]; exact ⟨_, _, HF2.out⟩, HEz⟩
      case measure => simp [intOf]; omega
    · obtain rfl : k = n := by omega
      have hlt' : ¬ ((k : Int) < (k : Int)) := by omega
      have hall : xs.take k = xs := List.take_of_length_le (by have := hn.out; omega)
      rw [hall] at HI
      have hpost := hid (show Made2 w xs (.returned (.tuple #[.pointer (some ⟨p, 0, none⟩), .int .i64 0])) wr from ⟨HE.out, .inr ⟨H0.out, p, L, _, rfl, HI.out.done, HI.out.view, ⟨HI.out.rowLo⟩, fun k hk => .inr (.inr (.inr hk)), fun k hk => HI.out.lt k (hk.elim (fun h => .inr (.inr (.inl h))) .inl)⟩⟩)
      go_wp2
      go_ret2
      exact hpost.out
end Go.Proofs.YtakebdeldndaaaaGreatDoor
