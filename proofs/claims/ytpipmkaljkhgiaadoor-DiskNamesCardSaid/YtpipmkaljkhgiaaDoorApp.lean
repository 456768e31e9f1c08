/- append onto a slice of the call's own, from whatever source: one law for the walks of this seat. -/
import Derived.Test.YtpipmkaljkhgiaaDoorProg
import Derived.Test.YtpipmkaljkhgiaaDoorBase
import Derived.Maps.AppendAt
import Derived.Laws.OwnMore
namespace Go.Proofs.YtpipmkaljkhgiaaDoor
open Go Go.RowKit

/-- A slice type and its element's row in the table of types. -/
structure SlInfo (P : Program) (t e : TypeId) (z : Value) (size bytes : Nat) : Prop where
  ht : P.underlying t = some (.slice e)
  hi : (P.info? e).map (fun i => (i.zero, i.size, i.bytes)) = some (some z, size, bytes)
  hz : z.cells.size = size
  hs : 0 < size

theorem run_append_owned_nil {P : Program} {w : World} (base : Nat) (t ty e : TypeId) (i : TypeInfo) (size : Nat) (ht : P.underlying t = some (.slice e)) (hi : P.info? e = some i)
    (v : Value) (n : Nat) (xs : List Value) (hown : w.ownsRow base e size v n xs) (c : Nat) :
    (Builtin.append_ #[t, t] ty #[v, .slice none 0 c]).run P w = .ok v w := by
  rcases hown.2 with ⟨rfl, rfl⟩ | ⟨g, cap, cur, rfl, _, _, hnc, _⟩
  · simp [Builtin.append_, run_underlying ht, sizeOf, typeInfo, hi, Builtin.lenOf, Builtin.firstCells]
  · simp [Builtin.append_, run_underlying ht, sizeOf, typeInfo, hi, Builtin.lenOf, Builtin.firstCells, hnc, storeCells]

/-- What an append leaves: the owned row, grown. -/
structure Grew (w0 w w1 : World) (B : Nat) (v v1 : Value) : Prop where
  grown : w.grownBy w1 v.ownBlock
  below : Below B w0 w1
  at_ : v1.ownBlock = v.ownBlock ∨ v1.ownBlock = some w.heap.size

theorem own_base {w : World} {base : Nat} {e : TypeId} {size n : Nat} {v : Value} {xs : List Value} (h : w.ownsRow base e size v n xs) (k : Nat) (hk : v.ownBlock = some k) : base ≤ k := (h.lt k hk).1

theorem wpList_app {P : Program} {w w0 : World} {ops : Array Oper} {rest : List Oper} {o : Oper} {a : Act} {Q : Exit → Act → World → Prop} {t e : TypeId} {z : Value} {size bytes : Nat} (S : SlInfo P t e z size bytes)
    (hgd : o.guard = none) (s x : Operand) (ho : o.op = .call { callee := .builtin .append, args := #[s, x], argTypes := #[t, t] })
    (base : Nat) (v : Value) (n : Nat) (xs : List Value) (hs : a.eval s = v) (hown : w.ownsRow base e size v n xs) (hB : Below base w0 w) (hbase : base ≤ w.heap.size)
    (A : Option Addr) (m c : Nat) (news : List Value) (hx : a.eval x = .slice A m c) (hl : news.length = m * size) (hr : RV w A news) (h1 : ∀ u ∈ news, u.oneCell' = true)
    (hbytes : (n + m) * bytes ≤ 140737488355328) (hmax : n + m ≤ 140737488355328)
    (h : ∀ v' w', w'.ownsRow base e size v' (n + m) (xs ++ news) → Grew w0 w w' base v v' → (v' = .slice none 0 0 ↔ v = .slice none 0 0 ∧ m = 0) → wpList P ops Q rest (a.put o.dst v') w') :
    wpList P ops Q (o :: rest) a w := by
  obtain ⟨i, hi, hii⟩ := Option.map_eq_some_iff.1 S.hi
  simp only [Prod.mk.injEq] at hii
  obtain ⟨hz0, hz1, hz2⟩ := hii
  by_cases hA : A = none
  · subst hA
    have hn : news = [] := by
      rcases hr with h | ⟨_, _, h, _⟩
      · exact h
      · cases h
    subst hn
    have hm : m = 0 := by
      have h0 : 0 = m * size := by simpa using hl
      rcases Nat.mul_eq_zero.1 h0.symm with h | h
      · exact h
      · have := S.hs; omega
    subst hm
    refine wpList_plain hgd fun K hK => ?_
    have hrun := run_append_owned_nil (P := P) (w := w) base t o.type e i size S.ht hi v n xs hown c
    unfold Oper.wp
    simp [execOp, ho, resolve, invoke, builtin, hs, hx, hrun, Result.andThen]
    refine hK _ _ (h v w (by simpa using hown) ⟨⟨rfl, rfl, rfl, Nat.le_refl _, fun _ _ _ => rfl⟩, hB, .inl rfl⟩ (by simp))
  · obtain ⟨ad, rfl⟩ := Option.ne_none_iff_exists'.1 hA
    refine wpList_append_own_at w hgd s x t ho base e i z size bytes S.ht hi hz0 hz1 hz2 S.hz S.hs v n xs hs hown ad m c news hx hl ?_ h1 (by simp only [maxLen]; omega) hbytes hbase ?_
    · rcases hr with rfl | ⟨b, o', e', h⟩
      · intro j u hu; simp at hu
      · simp only [Option.some.injEq] at e'
        subst e'
        intro j u hu
        have := h j u hu
        rwa [Addr.add_lit]
    · intro v' w' hown' hg hnil hat
      exact h v' w' hown' ⟨hg, hB.grown hg hbase fun k hk => own_base hown k hk, hat⟩ hnil

theorem u8info : SlInfo Tryd.prog 22 5 (.int .u8 0) 1 1 := ⟨Tryd.underlying22, by kernel_rfl, rfl, by omega⟩
theorem bvs_one (bs : List UInt8) : ∀ u ∈ bvs bs, u.oneCell' = true := by
  intro u hu
  obtain ⟨_, _, rfl⟩ := List.mem_map.1 hu
  rfl
/-- One byte that was laid in a block of its own, for an append of it. -/
theorem RV.box (w : World) (x : Value) (t : TypeId) : RV (w.alloc (.cells #[x] t)) (some ⟨w.heap.size, 0, none⟩) [x] :=
  .inr ⟨_, _, rfl, fun j v hv => by
    match j, hv with
    | 0, hv => simp at hv; subst hv; rw [cell_of_row _ _ _ _ _ _ (heap_alloc_last w _)]; rfl⟩

/-- Bytes that were laid in a box, for an append of them. -/
theorem RB_box (w : World) (ys : Array Value) (bs : List UInt8) (h : ys.toList = bvs bs) : RB (w.alloc (.cells ys 5)) (some ⟨w.heap.size, 0, none⟩) bs :=
  .inr ⟨_, _, rfl, fun j v hv => by
    rw [cell_of_row _ _ _ _ _ _ (heap_alloc_last w _), ← Array.getElem?_toList, h, Nat.zero_add]
    exact hv⟩
theorem RB_boxf (w : World) (ys : Array Value) (fr : Nat × Nat) (bs : List UInt8) (h : ys.toList = bvs bs) : RB (w.alloc (.cells ys 5 fr)) (some ⟨w.heap.size, 0, none⟩) bs :=
  .inr ⟨_, _, rfl, fun j v hv => by
    rw [cell_of_row _ _ _ _ _ _ (heap_alloc_last w _), ← Array.getElem?_toList, h, Nat.zero_add]
    exact hv⟩
/-- An empty literal. -/
theorem OB_empty (w : World) (base : Nat) (hb : base ≤ w.heap.size) : OB (w.alloc (.cells #[] 5)) base (.slice (some ⟨w.heap.size, 0, none⟩) 0 0) [] :=
  ⟨rfl, .inr ⟨w.heap.size, 0, #[], rfl, hb, heap_alloc_last w _, Nat.le_refl _, by simp [maxLen], rfl, rfl⟩⟩

section
variable {w w0 : World} {ops : Array Oper} {rest : List Oper} {o : Oper} {a : Act} {Q : Exit → Act → World → Prop}
/-- append of bytes from wherever. -/
theorem wpList_appB (hgd : o.guard = none) (s x : Operand) (ho : o.op = .call { callee := .builtin .append, args := #[s, x], argTypes := #[22, 22] })
    (base : Nat) (v : Value) (bs : List UInt8) (hs : a.eval s = v) (hown : Hid (OB w base v bs)) (hB : Hid (Below base w0 w)) (hbase : base ≤ w.heap.size)
    (A : Option Addr) (c m : Nat) (news : List UInt8) (hx : a.eval x = .slice A m c) (hm : Hid (m = news.length)) (hr : Hid (RB w A news)) (hmax : bs.length + m ≤ 140737488355328)
    (h : ∀ v' w', Hid (OB w' base v' (bs ++ news)) → Hid (Below base w0 w') → Hid (Grew w0 w w' base v v') → wpList Tryd.prog ops Q rest (a.put o.dst v') w') :
    wpList Tryd.prog ops Q (o :: rest) a w := by
  obtain rfl : m = news.length := hm
  refine wpList_app (w0 := w0) u8info hgd s x ho base v bs.length (bvs bs) hs hown hB hbase A news.length c (bvs news) hx (by rw [bvs_length, Nat.mul_one]) hr (bvs_one news) (by rw [Nat.mul_one]; exact hmax) hmax ?_
  intro v' w' h1 h2 _
  refine h v' w' ?_ h2.below h2
  show w'.ownsRow _ _ _ _ _ _
  rw [bvs_append, List.length_append]
  exact h1
/-- append of one byte, which lies in a box of its own. -/
theorem wpList_appB1 (hgd : o.guard = none) (s x : Operand) (ho : o.op = .call { callee := .builtin .append, args := #[s, x], argTypes := #[22, 22] })
    (base : Nat) (v : Value) (bs : List UInt8) (hs : a.eval s = v) (hown : Hid (OB w base v bs)) (hB : Hid (Below base w0 w)) (hbase : base ≤ w.heap.size)
    (b : UInt8) (y : Int) (hy : y = (b.toNat : Int)) (hx : a.eval x = .slice (some ⟨w.heap.size, 0, none⟩) 1 1) (hmax : bs.length < 140737488355328)
    (h : ∀ v' w', Hid (OB w' base v' (bs ++ [b])) → Hid (Below base w0 w') → Hid (Grew w0 (w.alloc (.cells #[.int .u8 y] 5)) w' base v v') → wpList Tryd.prog ops Q rest (a.put o.dst v') w') :
    wpList Tryd.prog ops Q (o :: rest) a (w.alloc (.cells #[.int .u8 y] 5)) := by
  subst hy
  exact wpList_appB (w := w.alloc (.cells #[.int .u8 (b.toNat : Int)] 5)) hgd s x ho base v bs hs (World.ownsRow.alloc hown _) (Below.alloc hB hbase _) (by simp; omega) _ 1 1 [b] hx rfl (RV.box _ _ _) (by omega) h
end

/-- A byte of a row of one's own, to be written. -/
theorem OB.cellAt {w : World} {base : Nat} {v : Value} {bs : List UInt8} (h : OB w base v bs) (hne : 0 < bs.length) :
    ∃ g c, v = .slice (some ⟨g, 0, none⟩) bs.length c ∧ base ≤ g ∧ g < w.heap.size ∧ bs.length ≤ c ∧ ∀ k (hk : k < bs.length), w.cell? ⟨g, k, none⟩ = some (.int .u8 ((bs[k]'hk).toNat : Int)) ∧ w.frozen? ⟨g, k, none⟩ = false := by
  obtain ⟨h1, h2⟩ := h
  rcases h2 with ⟨rfl, h0⟩ | ⟨g, cap, cur, rfl, hb, hg, hn, hm, hs, ht⟩
  · omega
  · refine ⟨g, cap, rfl, hb, (Array.getElem?_eq_some_iff.1 hg).1, hn, fun k hk => ⟨?_, frozen_of_row w g k cur _ hg⟩⟩
    rw [cell_of_row w g k cur _ _ hg, ← Array.getElem?_toList]
    have := congrArg (fun l : List Value => l[k]?) ht
    simp only [Nat.mul_one, List.getElem?_take, hk, if_true] at this
    rw [this]
    simp [bvs, bv, hk]
/-- A byte of it written. -/
theorem OB.stored {w : World} {base g n c : Nat} {bs : List UInt8} (h : OB w base (.slice (some ⟨g, 0, none⟩) n c) bs) (hn : n = bs.length) (k : Nat) (x : UInt8) :
    OB (w.setCell ⟨g, k, none⟩ (.int .u8 (x.toNat : Int))) base (.slice (some ⟨g, 0, none⟩) n c) (bs.set k x) := by
  subst hn
  have := (World.ownsRow.stored h k (bv x)).1
  unfold OB
  rw [List.length_set, show bvs (bs.set k x) = (bvs bs).set k (bv x) by simp [bvs]]
  exact this

theorem run_append_zero {P : Program} {w : World} (base : Nat) (t ty e : TypeId) (i : TypeInfo) (size : Nat) (ht : P.underlying t = some (.slice e)) (hi : P.info? e = some i)
    (v : Value) (n : Nat) (xs : List Value) (hown : w.ownsRow base e size v n xs) (A : Option Addr) (c : Nat) :
    (Builtin.append_ #[t, t] ty #[v, .slice A 0 c]).run P w = .ok v w := by
  cases A with
  | none => exact run_append_owned_nil base t ty e i size ht hi v n xs hown c
  | some ad =>
    rcases hown.2 with ⟨rfl, rfl⟩ | ⟨g, cap, cur, rfl, _, _, hnc, _⟩
    · simp [Builtin.append_, run_underlying ht, sizeOf, typeInfo, hi, Builtin.lenOf, Builtin.firstCells, loadCells, loadCellsFrom]
    · simp [Builtin.append_, run_underlying ht, sizeOf, typeInfo, hi, Builtin.lenOf, Builtin.firstCells, loadCells, loadCellsFrom, hnc, storeCells]
section
variable {w : World} {ops : Array Oper} {rest : List Oper} {o : Oper} {a : Act} {Q : Exit → Act → World → Prop}
/-- append onto a slice of the call's own that is full: nothing that was there is written. -/
theorem wpList_appFull (hgd : o.guard = none) (s x : Operand) (ho : o.op = .call { callee := .builtin .append, args := #[s, x], argTypes := #[22, 22] })
    (base g n : Nat) (bs : List UInt8) (hs : a.eval s = .slice (some ⟨g, 0, none⟩) n n) (hn : Hid (n = bs.length)) (hown : Hid (OB w base (.slice (some ⟨g, 0, none⟩) n n) bs)) (hbase : base ≤ w.heap.size)
    (A : Option Addr) (c m : Nat) (news : List UInt8) (hx : a.eval x = .slice A m c) (hm : Hid (m = news.length)) (hr : Hid (RB w A news)) (hmax : n + m ≤ 140737488355328)
    (h : ∀ v' w', Hid (OB w' base v' (bs ++ news)) → Hid (Ext w w') → wpList Tryd.prog ops Q rest (a.put o.dst v') w') :
    wpList Tryd.prog ops Q (o :: rest) a w := by
  obtain rfl : n = bs.length := hn
  obtain rfl : m = news.length := hm
  obtain ⟨i, hi, hii⟩ := Option.map_eq_some_iff.1 u8info.hi
  simp only [Prod.mk.injEq] at hii
  obtain ⟨hz0, hz1, hz2⟩ := hii
  by_cases h0 : news = []
  · subst h0
    refine wpList_plain hgd fun K hK => ?_
    have hrun := run_append_zero (P := Tryd.prog) (w := w) base 22 o.type 5 i 1 u8info.ht hi _ bs.length (bvs bs) hown A c
    unfold Oper.wp
    simp [execOp, ho, resolve, invoke, builtin, hs, hx, hrun, Result.andThen]
    exact hK _ _ (h _ w (by rw [List.append_nil]; exact hown) (Below.refl _ _))
  · have hm : 0 < news.length := List.length_pos_iff.2 h0
    obtain ⟨b, off, rfl, hrd⟩ : ∃ b o, A = some ⟨b, o, none⟩ ∧ ∀ j v, (bvs news)[j]? = some v → w.cell? ⟨b, o + j, none⟩ = some v := by
      rcases hr with h | h
      · exact absurd (by simpa [bvs] using h) h0
      · exact h
    have holds : ∀ j u, (bvs bs)[j]? = some u → w.cell? ((⟨g, 0, none⟩ : Addr).add j) = some u := World.ownsRow.cells hown (g := g) rfl
    have hr' := run_append_grow (P := Tryd.prog) w 22 o.type 5 i (.int .u8 0) u8info.ht hi hz0 ⟨g, 0, none⟩ bs.length bs.length (bvs bs) (by rw [hz1, Nat.mul_one, bvs_length]) holds
      ⟨b, off, none⟩ news.length c (bvs news) (by rw [hz1, Nat.mul_one, bvs_length]) (fun j u hu => by rw [Addr.add_lit]; exact hrd j u hu) (by omega) (by omega) (growslice_fits (by omega) (by rw [hz2]; omega))
    refine wpList_plain hgd fun K hK => ?_
    unfold Oper.wp execOp
    simp only [ho, resolve, invoke, builtin, Sem.run_bind, Sem.run_pure, Result.andThen_ok, List.map_toArray, List.map_cons, List.map_nil, hs, hx, hr']
    refine hK _ _ (h _ _ ?_ ?_)
    · refine ⟨by rw [bvs_length, Nat.mul_one], .inr ⟨w.heap.size, _, _, by rw [List.length_append], hbase, heap_alloc_new w.drew _, ?_, grownCap_le_maxLen w _ _ _ (by simp only [maxLen]; omega), ?_, ?_⟩⟩
      · rw [List.length_append]; exact grownCap_ge w _ _ _
      · have hge := grownCap_ge w (bs.length + news.length) bs.length 5
        simp only [Array.size_append, List.size_toArray, size_zeroCells, bvs_length]
        simp only [Value.cells, List.size_toArray, List.length_cons, List.length_nil, Nat.mul_one]
        omega
      · simp only [Array.toList_append, List.append_assoc]
        rw [← List.append_assoc, ← bvs_append, show (bs ++ news).length * 1 = (bvs (bs ++ news)).length by rw [bvs_length, Nat.mul_one]]
        exact List.take_left
    · refine (Below.refl w.heap.size w).trans ⟨rfl, rfl, rfl, by simp, ?_⟩
      intro k hk
      exact Go.heap_alloc_old w.drew _ hk
end
end Go.Proofs.YtpipmkaljkhgiaaDoor
