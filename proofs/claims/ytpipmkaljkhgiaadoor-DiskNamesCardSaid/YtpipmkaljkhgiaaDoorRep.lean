/- How plain data lies in memory: a kind of data, the cells that bear it, and the blocks that it leads to; slices of such data, read and owned. -/
import Derived.Test.YtpipmkaljkhgiaaDoorApp
import Derived.Test.YtpipmkaljkhgiaaDoorConv
namespace Go.Proofs.YtpipmkaljkhgiaaDoor
open Go Go.RowKit
set_option maxRecDepth 100000
set_option linter.unusedVariables false

/-- From A on stand these cells, in a block of which K holds. -/
def RK (w : World) (K : Nat → Prop) (A : Option Addr) (cs : List Value) : Prop :=
  cs = [] ∨ ∃ b o, A = some ⟨b, o, none⟩ ∧ K b ∧ ∀ j v, cs[j]? = some v → w.cell? ⟨b, o + j, none⟩ = some v
theorem RK.rv {w : World} {K : Nat → Prop} {A : Option Addr} {cs : List Value} (h : RK w K A cs) : RV w A cs := by
  rcases h with h | ⟨b, o, e, -, h⟩
  · exact .inl h
  · exact .inr ⟨b, o, e, h⟩
theorem RK.of_rv {w : World} {K : Nat → Prop} {A : Option Addr} {cs : List Value} (h : RV w A cs) (hk : ∀ b o, A = some ⟨b, o, none⟩ → b < w.heap.size → K b) : RK w K A cs := by
  rcases h with h | ⟨b, o, e, h⟩
  · exact .inl h
  · cases cs with
    | nil => exact .inl rfl
    | cons v l => exact .inr ⟨b, o, e, hk b o e (World.block_lt_of_cell? w ⟨b, o + 0, none⟩ (h 0 v rfl)), h⟩
theorem RK.ext {w w' : World} {K : Nat → Prop} {A : Option Addr} {cs : List Value} (h : RK w K A cs) (hk : ∀ k, K k → w'.heap[k]? = w.heap[k]?) : RK w' K A cs := by
  rcases h with h | ⟨b, o, e, kb, h⟩
  · exact .inl h
  · exact .inr ⟨b, o, e, kb, fun j v hv => by rw [← h j v hv]; exact World.cell?_of_block (hk b kb)⟩
theorem RK.mono {w : World} {K K' : Nat → Prop} {A : Option Addr} {cs : List Value} (h : RK w K A cs) (hk : ∀ k, K k → K' k) : RK w K' A cs := by
  rcases h with h | ⟨b, o, e, kb, h⟩
  · exact .inl h
  · exact .inr ⟨b, o, e, hk b kb, h⟩

/-- A kind of data in memory. -/
structure Rep (α : Type) where
  size : Nat
  rel : World → (Nat → Prop) → α → List Value → Prop
  len : ∀ {w K x cs}, rel w K x cs → cs.length = size
  one : ∀ {w K x cs}, rel w K x cs → ∀ u ∈ cs, u.oneCell' = true
  ext : ∀ {w w' K x cs}, rel w K x cs → (∀ k, K k → w'.heap[k]? = w.heap[k]?) → rel w' K x cs
  mono : ∀ {w K K' x cs}, rel w K x cs → (∀ k, K k → K' k) → rel w K' x cs
def Rows {α : Type} (R : Rep α) (w : World) (K : Nat → Prop) : List α → List Value → Prop
  | [], cs => cs = []
  | x :: xs, cs => ∃ c r, cs = c ++ r ∧ R.rel w K x c ∧ Rows R w K xs r
section
variable {α : Type} {R : Rep α} {w w' : World} {K K' : Nat → Prop}
theorem Rows.len : ∀ {xs : List α} {cs : List Value}, Rows R w K xs cs → cs.length = xs.length * R.size
  | [], _, h => by subst h; simp
  | x :: xs, _, ⟨c, r, e, hc, hr⟩ => by
    subst e
    rw [List.length_append, R.len hc, hr.len, List.length_cons, Nat.add_mul]
    omega
theorem Rows.one : ∀ {xs : List α} {cs : List Value}, Rows R w K xs cs → ∀ u ∈ cs, u.oneCell' = true
  | [], _, h => by subst h; simp
  | x :: xs, _, ⟨c, r, e, hc, hr⟩ => by
    subst e
    intro u hu
    rcases List.mem_append.1 hu with h | h
    · exact R.one hc u h
    · exact hr.one u h
theorem Rows.ext : ∀ {xs : List α} {cs : List Value}, Rows R w K xs cs → (∀ k, K k → w'.heap[k]? = w.heap[k]?) → Rows R w' K xs cs
  | [], _, h, _ => h
  | x :: xs, _, ⟨c, r, e, hc, hr⟩, hk => ⟨c, r, e, R.ext hc hk, hr.ext hk⟩
theorem Rows.mono : ∀ {xs : List α} {cs : List Value}, Rows R w K xs cs → (∀ k, K k → K' k) → Rows R w K' xs cs
  | [], _, h, _ => h
  | x :: xs, _, ⟨c, r, e, hc, hr⟩, hk => ⟨c, r, e, R.mono hc hk, hr.mono hk⟩
theorem Rows.append : ∀ {xs ys : List α} {cs ds : List Value}, Rows R w K xs cs → Rows R w K ys ds → Rows R w K (xs ++ ys) (cs ++ ds)
  | [], _, _, _, h, h' => by subst h; exact h'
  | x :: xs, ys, _, ds, ⟨c, r, e, hc, hr⟩, h' => ⟨c, r ++ ds, by rw [e, List.append_assoc], hc, hr.append h'⟩
theorem Rows.single {x : α} {c : List Value} (h : R.rel w K x c) : Rows R w K [x] c := ⟨c, [], by simp, h, rfl⟩
/-- The i-th element's cells. -/
theorem Rows.get : ∀ {xs : List α} {cs : List Value}, Rows R w K xs cs → ∀ i (hi : i < xs.length), ∃ c, R.rel w K (xs[i]'hi) c ∧ ∀ j v, c[j]? = some v → cs[i * R.size + j]? = some v
  | [], _, _, i, hi => by simp at hi
  | x :: xs, _, ⟨c, r, e, hc, hr⟩, 0, _ => ⟨c, hc, fun j v hv => by
      subst e
      have hj := (List.getElem?_eq_some_iff.1 hv).1
      rw [Nat.zero_mul, Nat.zero_add, List.getElem?_append_left hj]; exact hv⟩
  | x :: xs, _, ⟨c, r, e, hc, hr⟩, i + 1, hi => by
    obtain ⟨d, hd, h⟩ := hr.get i (by simpa using hi)
    refine ⟨d, hd, fun j v hv => ?_⟩
    subst e
    have hl := R.len hc
    rw [List.getElem?_append_right (by rw [hl, Nat.add_mul]; omega), hl]
    have := h j v hv
    rwa [show (i + 1) * R.size + j - R.size = i * R.size + j by rw [Nat.add_mul]; omega]
theorem Rows.take : ∀ {xs : List α} {cs : List Value} (k : Nat), Rows R w K xs cs → Rows R w K (xs.take k) (cs.take (k * R.size))
  | _, _, 0, _ => by simp [Rows]
  | [], _, k + 1, h => by subst h; simp [Rows]
  | x :: xs, _, k + 1, ⟨c, r, e, hc, hr⟩ => by
    refine ⟨c, r.take (k * R.size), ?_, hc, hr.take k⟩
    subst e
    have hl := R.len hc
    rw [List.take_append, hl, List.take_of_length_le (by rw [hl, Nat.add_mul]; omega)]
    congr 2
    rw [Nat.add_mul]; omega
theorem Rows.drop : ∀ {xs : List α} {cs : List Value} (k : Nat), Rows R w K xs cs → Rows R w K (xs.drop k) (cs.drop (k * R.size))
  | _, _, 0, h => by simpa using h
  | [], _, k + 1, h => by subst h; simp [Rows]
  | x :: xs, _, k + 1, ⟨c, r, e, hc, hr⟩ => by
    subst e
    have hl := R.len hc
    have h0 : c.drop ((k + 1) * R.size) = [] := List.drop_eq_nil_of_le (by rw [hl, Nat.add_mul]; omega)
    rw [List.drop_succ_cons, List.drop_append, hl, h0, List.nil_append]
    have := hr.drop k
    rwa [show (k + 1) * R.size - R.size = k * R.size by rw [Nat.add_mul]; omega]
end

/-! ### The kinds -/
/-- A single cell that a function of the datum tells. -/
def Rep.cell {α : Type} (f : α → Value) (h : ∀ x, (f x).oneCell' = true) : Rep α where
  size := 1
  rel := fun _ _ x cs => cs = [f x]
  len := fun e => by rw [e]; rfl
  one := fun e u hu => by rw [e] at hu; simp at hu; rw [hu]; exact h _
  ext := fun e _ => e
  mono := fun e _ => e
def Rep.u8 : Rep UInt8 := .cell bv fun _ => rfl
def Rep.i64 : Rep Int := .cell (fun x => .int .i64 x) fun _ => rfl
def Rep.bool : Rep Bool := .cell (fun x => .bool x) fun _ => rfl
def strV (s : List UInt8) : Value := .string (str s)
def Rep.str : Rep (List UInt8) := .cell strV fun _ => rfl
/-- Two kinds side by side. -/
def Rep.pair {α β : Type} (R : Rep α) (S : Rep β) : Rep (α × β) where
  size := R.size + S.size
  rel := fun w K x cs => ∃ c d, cs = c ++ d ∧ R.rel w K x.1 c ∧ S.rel w K x.2 d
  len := fun ⟨c, d, e, hc, hd⟩ => by rw [e, List.length_append, R.len hc, S.len hd]
  one := fun ⟨c, d, e, hc, hd⟩ u hu => by
    rw [e] at hu
    rcases List.mem_append.1 hu with h | h
    · exact R.one hc u h
    · exact S.one hd u h
  ext := fun ⟨c, d, e, hc, hd⟩ hk => ⟨c, d, e, R.ext hc hk, S.ext hd hk⟩
  mono := fun ⟨c, d, e, hc, hd⟩ hk => ⟨c, d, e, R.mono hc hk, S.mono hd hk⟩
/-- A kind told by another one. -/
def Rep.of {α β : Type} (R : Rep α) (f : β → α) : Rep β where
  size := R.size
  rel := fun w K x cs => R.rel w K (f x) cs
  len := R.len
  one := R.one
  ext := R.ext
  mono := R.mono
/-- A slice. -/
def Rep.slice {α : Type} (R : Rep α) : Rep (List α) where
  size := 1
  rel := fun w K xs cs => ∃ A c ds, cs = [.slice A xs.length c] ∧ xs.length ≤ c ∧ c ≤ 9223372036854775807 ∧ Rows R w K xs ds ∧ RK w K A ds
  len := fun ⟨_, _, _, e, _⟩ => by rw [e]; rfl
  one := fun ⟨_, _, _, e, _⟩ u hu => by rw [e] at hu; simp at hu; rw [hu]; rfl
  ext := fun ⟨A, c, ds, e, hc, hm, hr, hk⟩ h => ⟨A, c, ds, e, hc, hm, hr.ext h, hk.ext h⟩
  mono := fun ⟨A, c, ds, e, hc, hm, hr, hk⟩ h => ⟨A, c, ds, e, hc, hm, hr.mono h, hk.mono h⟩
theorem rows_u8 {w : World} {K : Nat → Prop} : ∀ (bs : List UInt8), Rows Rep.u8 w K bs (bvs bs)
  | [] => rfl
  | b :: bs => ⟨[bv b], bvs bs, rfl, rfl, rows_u8 bs⟩
theorem rows_u8_eq {w : World} {K : Nat → Prop} : ∀ {bs : List UInt8} {cs : List Value}, Rows Rep.u8 w K bs cs → cs = bvs bs
  | [], _, h => h
  | b :: bs, _, ⟨c, r, e, hc, hr⟩ => by rw [e, show c = [bv b] from hc, rows_u8_eq hr]; rfl

/-! ### Slices that are read, and slices that are owned -/
/-- A slice value that reads as xs. -/
def SlR {α : Type} (R : Rep α) (w : World) (K : Nat → Prop) (A : Option Addr) (n c : Nat) (xs : List α) : Prop :=
  n = xs.length ∧ n ≤ c ∧ c ≤ 9223372036854775807 ∧ ∃ cs, Rows R w K xs cs ∧ RK w K A cs
/-- The blocks that what is owned may lead to. -/
def Others (w : World) (v : Value) (k : Nat) : Prop := k < w.heap.size ∧ v.ownBlock ≠ some k
/-- A slice of the call's own, its elements leading to other blocks. -/
def OwnR {α : Type} (R : Rep α) (e : TypeId) (w : World) (base : Nat) (v : Value) (xs : List α) : Prop :=
  ∃ cs, w.ownsRow base e R.size v xs.length cs ∧ Rows R w (Others w v) xs cs
section
variable {α : Type} {R : Rep α} {e : TypeId} {w w' : World} {base : Nat} {v : Value} {xs : List α}
theorem OwnR.read (h : OwnR R e w base v xs) : ∃ A c, v = .slice A xs.length c ∧ SlR R w (· < w.heap.size) A xs.length c xs := by
  obtain ⟨cs, ho, hr⟩ := h
  obtain ⟨A, c, e, hc, hv⟩ := RV.own ho
  have hm : c ≤ 9223372036854775807 := by
    rcases ho.2 with ⟨h1, h2⟩ | ⟨g, cap, cur, h1, _, _, _, hm, _⟩
    · rw [h1] at e; simp only [Value.slice.injEq] at e; omega
    · rw [h1] at e; simp only [Value.slice.injEq] at e; simp only [maxLen] at hm; omega
  exact ⟨A, c, e, rfl, hc, hm, cs, hr.mono (fun k hk => hk.1), RK.of_rv hv fun b o _ h => h⟩
theorem OwnR.ext (h : OwnR R e w base v xs) (hE : Ext w w') : OwnR R e w' base v xs := by
  obtain ⟨cs, ho, hr⟩ := h
  refine ⟨cs, World.ownsRow.kept (row := none) ho ⟨hE.os, hE.tape, hE.output, hE.size, fun i hi _ => hE.block i hi⟩ (by cases v.ownBlock <;> simp), ?_⟩
  exact (hr.ext fun k hk => hE.block k hk.1).mono fun k hk => ⟨Nat.lt_of_lt_of_le hk.1 hE.size, hk.2⟩
theorem OwnR.base' {base' : Nat} (h : OwnR R e w base v xs) (hb : base' ≤ base) : OwnR R e w base' v xs := let ⟨cs, ho, hr⟩ := h; ⟨cs, ownsRow_base ho hb, hr⟩
theorem OwnR.nil (w : World) (base : Nat) : OwnR R e w base (.slice none 0 0) [] := ⟨[], World.ownsRow_nil w base e R.size, rfl⟩
theorem OwnR.empty (w : World) (base : Nat) (hb : base ≤ w.heap.size) : OwnR R e (w.alloc (.cells #[] e)) base (.slice (some ⟨w.heap.size, 0, none⟩) 0 0) [] :=
  ⟨[], ⟨by simp, .inr ⟨w.heap.size, 0, #[], rfl, hb, heap_alloc_last w _, Nat.le_refl _, by simp [maxLen], by simp, by simp⟩⟩, rfl⟩
theorem SlR.ext {K : Nat → Prop} {A : Option Addr} {n c : Nat} (h : SlR R w K A n c xs) (hk : ∀ k, K k → w'.heap[k]? = w.heap[k]?) : SlR R w' K A n c xs :=
  let ⟨h1, h2, h3, cs, hr, hv⟩ := h; ⟨h1, h2, h3, cs, hr.ext hk, hv.ext hk⟩
theorem SlR.mono {K K' : Nat → Prop} {A : Option Addr} {n c : Nat} (h : SlR R w K A n c xs) (hk : ∀ k, K k → K' k) : SlR R w K' A n c xs :=
  let ⟨h1, h2, h3, cs, hr, hv⟩ := h; ⟨h1, h2, h3, cs, hr.mono hk, hv.mono hk⟩
/-- It is read on while the world grows. -/
theorem SlR.grow {A : Option Addr} {n c : Nat} (h : SlR R w (· < w.heap.size) A n c xs) (hE : Ext w w') : SlR R w' (· < w'.heap.size) A n c xs :=
  (h.ext fun k hk => hE.block k hk).mono fun k hk => Nat.lt_of_lt_of_le hk hE.size
/-- The i-th element, where it lies. -/
theorem SlR.get {K : Nat → Prop} {A : Option Addr} {n c : Nat} (h : SlR R w K A n c xs) (hs : 0 < R.size) (i : Nat) (hi : i < xs.length) :
    ∃ b o d, A = some ⟨b, o, none⟩ ∧ K b ∧ R.rel w K (xs[i]'hi) d ∧ ∀ j u, d[j]? = some u → w.cell? ⟨b, o + (i * R.size + j), none⟩ = some u := by
  obtain ⟨h1, h2, -, cs, hr, hv⟩ := h
  obtain ⟨d, hd, hg⟩ := hr.get i hi
  rcases hv with rfl | ⟨b, o, e, kb, hv⟩
  · exfalso
    have hl := R.len hd
    have := hg 0 (d[0]'(by omega)) (by simp [show 0 < d.length by omega])
    simp at this
  · exact ⟨b, o, d, e, kb, hd, fun j u hu => hv _ u (hg j u hu)⟩

/-- append onto what is owned. -/
theorem wpList_appR {P : Program} {w0 : World} {ops : Array Oper} {rest : List Oper} {o : Oper} {a : Act} {Q : Exit → Act → World → Prop} {t : TypeId} {z : Value} {bytes : Nat} (S : SlInfo P t e z R.size bytes)
    (hgd : o.guard = none) (s x : Operand) (ho : o.op = .call { callee := .builtin .append, args := #[s, x], argTypes := #[t, t] })
    (hs : a.eval s = v) (hown : Hid (OwnR R e w base v xs)) (hB : Hid (Below base w0 w)) (hbase : base ≤ w.heap.size)
    (A : Option Addr) (m c : Nat) (news : List α) (hx : a.eval x = .slice A m c) (hm : Hid (m = news.length)) (hr : Hid (∃ cs, Rows R w (Others w v) news cs ∧ RV w A cs))
    (hbytes : (xs.length + m) * bytes ≤ 140737488355328) (hmax : xs.length + m ≤ 140737488355328)
    (h : ∀ v' w', Hid (OwnR R e w' base v' (xs ++ news)) → Hid (Below base w0 w') → Hid (Grew w0 w w' base v v') → wpList P ops Q rest (a.put o.dst v') w') :
    wpList P ops Q (o :: rest) a w := by
  obtain rfl : m = news.length := hm
  obtain ⟨cs, hr, hv⟩ := hr
  obtain ⟨ds, hown, hrow⟩ := hown
  refine wpList_app (w0 := w0) S hgd s x ho base v xs.length ds hs hown hB hbase A news.length c cs hx hr.len hv hr.one hbytes hmax ?_
  intro v' w' h1 h2 _
  refine h v' w' ⟨ds ++ cs, by rw [List.length_append]; exact h1, ?_⟩ h2.below h2
  have hall := hrow.append hr
  have hlt := fun k hk => (World.ownsRow.lt hown k hk).2
  refine (hall.ext fun k hk => h2.grown.block k hk.1 (fun e => hk.2 e.symm)).mono fun k hk => ⟨Nat.lt_of_lt_of_le hk.1 h2.grown.size, ?_⟩
  rcases h2.at_ with e | e
  · rw [e]; exact hk.2
  · rw [e]; intro h'; have := hk.1; simp at h'; omega
end
end Go.Proofs.YtpipmkaljkhgiaaDoor
