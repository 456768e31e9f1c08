/- Rows of one's own whose elements lead to old blocks alone, several side by side. -/
import Derived.Test.YtjfggfmhchoobaaFrame6
import Derived.Test.YtjfggfmhchoobaaFrameSame
namespace Go.Proofs.Ytjfggfmhchoobaa
open Go Go.RowKit
set_option linter.unusedSimpArgs false
set_option linter.unusedVariables false

/-- Two values that own no block together. -/
def Apart (u v : Value) : Prop := ∀ k, u.ownBlock = some k → v.ownBlock ≠ some k
theorem Apart.symm {u v : Value} (h : Apart u v) : Apart v u := fun k h1 h2 => h k h2 h1
def OwnA {α : Type} (R : Rep α) (e : TypeId) (n0 : Nat) (w : World) (base : Nat) (v : Value) (xs : List α) : Prop :=
  ∃ cs, w.ownsRow base e R.size v xs.length cs ∧ Rows R w (· < n0) xs cs
theorem ownsRow_grew {w0 w w' : World} {base : Nat} {u v v' : Value} {e : TypeId} {size n : Nat} {cs : List Value} (h : w.ownsRow base e size u n cs) (g : Grew w0 w w' base v v') (ha : Apart u v) :
    w'.ownsRow base e size u n cs ∧ Apart u v' := by
  refine ⟨World.ownsRow.kept h g.grown ?_, fun k hk hk' => ?_⟩
  · cases hq : u.ownBlock with
    | none => exact .inl rfl
    | some k => exact .inr fun e => ha k hq e.symm
  · rcases g.at_ with e | e
    · rw [e] at hk'; exact ha k hk hk'
    · have := (World.ownsRow.lt h k hk).2
      rw [e] at hk'
      simp only [Option.some.injEq] at hk'
      omega
theorem OB.grew {w0 w w' : World} {base : Nat} {u v v' : Value} {bs : List UInt8} (h : OB w base u bs) (g : Grew w0 w w' base v v') (ha : Apart u v) : OB w' base u bs ∧ Apart u v' := ownsRow_grew h g ha
section
variable {α : Type} {R : Rep α} {e : TypeId} {n0 : Nat} {w w' w0 : World} {base : Nat} {u v v' : Value} {xs : List α}
theorem OwnA.ext (h : OwnA R e n0 w base v xs) (hE : Ext w w') (hn : n0 ≤ w.heap.size) : OwnA R e n0 w' base v xs := by
  obtain ⟨cs, ho, hr⟩ := h
  exact ⟨cs, World.ownsRow.kept (row := none) ho ⟨hE.os, hE.tape, hE.output, hE.size, fun i hi _ => hE.block i hi⟩ (by cases v.ownBlock <;> simp), hr.ext fun k hk => hE.block k (by omega)⟩
theorem OwnA.grew (h : OwnA R e n0 w base u xs) (g : Grew w0 w w' base v v') (hB : Below base w0 w) (ha : Apart u v) (hn : n0 ≤ base) : OwnA R e n0 w' base u xs ∧ Apart u v' := by
  obtain ⟨cs, ho, hr⟩ := h
  obtain ⟨h1, h2⟩ := ownsRow_grew ho g ha
  exact ⟨⟨cs, h1, hr.ext fun k hk => (g.below.block k (by omega)).trans (hB.block k (by omega)).symm⟩, h2⟩
theorem OwnA.read (h : OwnA R e n0 w base v xs) (hn : n0 ≤ w.heap.size) : ∃ A c, v = .slice A xs.length c ∧ SlR R w (· < w.heap.size) A xs.length c xs := by
  obtain ⟨cs, ho, hr⟩ := h
  obtain ⟨A, c, e, hc, hv⟩ := RV.own ho
  have hm : c ≤ 9223372036854775807 := by
    rcases ho.2 with ⟨h1, h2⟩ | ⟨g, cap, cur, h1, _, _, _, hm, _⟩
    · rw [h1] at e; simp only [Value.slice.injEq] at e; omega
    · rw [h1] at e; simp only [Value.slice.injEq] at e; simp only [maxLen] at hm; omega
  exact ⟨A, c, e, rfl, hc, hm, cs, hr.mono (fun k hk => by omega), RK.of_rv hv fun b o _ h => h⟩
theorem OwnA.old (h : OwnA R e n0 w base v xs) : ∀ b, v.ownBlock = some b → base ≤ b ∧ b < w.heap.size := by
  obtain ⟨cs, ho, _⟩ := h
  exact fun b hb => World.ownsRow.lt ho b hb
theorem OwnA.empty (w : World) (base : Nat) (hb : base ≤ w.heap.size) : OwnA R e n0 (w.alloc (.cells #[] e)) base (.slice (some ⟨w.heap.size, 0, none⟩) 0 0) [] :=
  ⟨[], ⟨by simp, .inr ⟨w.heap.size, 0, #[], rfl, hb, heap_alloc_last w _, Nat.le_refl _, by simp [maxLen], by simp, by simp⟩⟩, rfl⟩
theorem wpList_appA {P : Program} {ops : Array Oper} {rest : List Oper} {o : Oper} {a : Act} {Q : Exit → Act → World → Prop} {t : TypeId} {z : Value} {bytes : Nat} (S : SlInfo P t e z R.size bytes)
    (hgd : o.guard = none) (s x : Operand) (ho : o.op = .call { callee := .builtin .append, args := #[s, x], argTypes := #[t, t] })
    (hs : a.eval s = v) (hown : Hid (OwnA R e n0 w base v xs)) (hB : Hid (Below base w0 w)) (hbase : base ≤ w.heap.size) (hn0 : n0 ≤ base)
    (A : Option Addr) (m c : Nat) (news : List α) (hx : a.eval x = .slice A m c) (hm : Hid (m = news.length)) (hr : Hid (∃ cs, Rows R w (· < n0) news cs ∧ RV w A cs))
    (hbytes : (xs.length + m) * bytes ≤ 140737488355328) (hmax : xs.length + m ≤ 140737488355328)
    (h : ∀ v' w', Hid (OwnA R e n0 w' base v' (xs ++ news)) → Hid (Below base w0 w') → Hid (Grew w0 w w' base v v') → wpList P ops Q rest (a.put o.dst v') w') :
    wpList P ops Q (o :: rest) a w := by
  obtain rfl : m = news.length := hm
  obtain ⟨cs, hr, hv⟩ := hr
  obtain ⟨ds, hown, hrow⟩ := hown
  refine wpList_app (w0 := w0) S hgd s x ho base v xs.length ds hs hown hB hbase A news.length c cs hx hr.len hv hr.one hbytes hmax ?_
  intro v' w' h1 h2 _
  refine h v' w' ⟨ds ++ cs, by rw [List.length_append]; exact h1, ?_⟩ h2.below h2
  exact (hrow.append hr).ext fun k hk => (h2.below.block k (by omega)).trans (Below.block hB k (by omega)).symm
end
/-- A row of bytes that was there before, as an element. -/
theorem old_row {w : World} {X : Option Addr} {x : List UInt8} {m d : Nat} (hr : RB w X x) (hm : m = x.length) (hd : m ≤ d) (hx : d ≤ 9223372036854775807) : (Rep.slice Rep.u8).rel w (· < w.heap.size) x [.slice X m d] := by
  subst hm
  refine ⟨X, d, bvs x, rfl, hd, hx, rows_u8 x, ?_⟩
  rcases hr with h | ⟨b, o, e, h⟩
  · exact .inl h
  · by_cases h0 : bvs x = []
    · exact .inl h0
    · refine .inr ⟨b, o, e, ?_, h⟩
      have hp : 0 < (bvs x).length := List.length_pos_iff.2 h0
      exact World.block_lt_of_cell? w ⟨b, o + 0, none⟩ (h 0 _ (List.getElem?_eq_getElem hp))
theorem SlR.getC {w : World} {K : Nat → Prop} {A : Option Addr} {n c : Nat} {xs : List (List UInt8)} (h : SlR (Rep.slice Rep.u8) w K A n c xs) (i : Nat) (hi : i < xs.length) :
    ∃ b o A' c', A = some ⟨b, o, none⟩ ∧ w.cell? ⟨b, o + i, none⟩ = some (.slice A' (xs[i]'hi).length c') ∧ (xs[i]'hi).length ≤ c' ∧ c' ≤ 9223372036854775807 ∧ RB w A' (xs[i]'hi) := by
  obtain ⟨b, o, d, hA, -, hr, hg⟩ := h.get (by decide) i hi
  obtain ⟨A', c', ds, rfl, h1, h2, h3, h4⟩ := hr
  have := rows_u8_eq h3
  subst this
  refine ⟨b, o, A', c', hA, ?_, h1, h2, h4.rv⟩
  have := hg 0 _ rfl
  rwa [show i * (Rep.slice Rep.u8).size + 0 = i by show i * 1 + 0 = i; omega] at this
theorem SlR.getI {w : World} {K : Nat → Prop} {A : Option Addr} {n c : Nat} {xs : List Int} (h : SlR Rep.i64 w K A n c xs) (i : Nat) (hi : i < xs.length) :
    ∃ b o, A = some ⟨b, o, none⟩ ∧ w.cell? ⟨b, o + i, none⟩ = some (.int .i64 (xs[i]'hi)) := by
  obtain ⟨b, o, d, hA, -, hr, hg⟩ := h.get (by decide) i hi
  have hd : d = [.int .i64 (xs[i]'hi)] := hr
  subst hd
  refine ⟨b, o, hA, ?_⟩
  have := hg 0 _ rfl
  rwa [show i * Rep.i64.size + 0 = i by show i * 1 + 0 = i; omega] at this
theorem SlR.take {α : Type} {R : Rep α} {w : World} {K : Nat → Prop} {A : Option Addr} {n c : Nat} {xs : List α} (h : SlR R w K A n c xs) (k : Nat) (hk : k ≤ n) : SlR R w K A k c (xs.take k) := by
  obtain ⟨h1, h2, h3, cs, hr, hv⟩ := h
  refine ⟨by rw [List.length_take]; omega, by omega, h3, _, hr.take k, ?_⟩
  rcases hv with rfl | ⟨b, o, e, kb, hv⟩
  · exact .inl (by simp)
  · refine .inr ⟨b, o, e, kb, fun j v hj => ?_⟩
    rw [List.getElem?_take] at hj
    split at hj
    · exact hv j v hj
    · cases hj
/-- A store into a row of one's own leaves the others. -/
theorem grown_setCell (w : World) (a : Addr) (u : Value) : w.grownBy (w.setCell a u) (some a.block) :=
  ⟨rfl, rfl, rfl, by simp, fun k _ hk => heap_setCell_other w a k u (fun e => hk (by rw [e]))⟩
theorem OwnA.setCell {α : Type} {R : Rep α} {e : TypeId} {n0 : Nat} {w : World} {base : Nat} {u : Value} {xs : List α} (h : OwnA R e n0 w base u xs) (a : Addr) (x : Value) (hg : n0 ≤ a.block) (ha : ∀ k, u.ownBlock = some k → k ≠ a.block) : OwnA R e n0 (w.setCell a x) base u xs := by
  obtain ⟨cs, ho, hr⟩ := h
  refine ⟨cs, World.ownsRow.kept ho (grown_setCell w a x) ?_, hr.ext fun k hk => heap_setCell_other w a k x (by omega)⟩
  cases hq : u.ownBlock with
  | none => exact .inl rfl
  | some k => exact .inr fun e => ha k hq (by simpa using e)
theorem OwnA.readSame {α : Type} {R : Rep α} {e : TypeId} {n0 : Nat} {w : World} {base n c : Nat} {A : Option Addr} {xs : List α} (h : OwnA R e n0 w base (.slice A n c) xs) (hn : n0 ≤ w.heap.size) : SlR R w (· < w.heap.size) A n c xs := by
  obtain ⟨A', c', e, hs⟩ := h.read hn
  simp only [Value.slice.injEq] at e
  obtain ⟨rfl, rfl, rfl⟩ := e
  exact hs
end Go.Proofs.Ytjfggfmhchoobaa
