/- Events, clauses, queries, entries: how they lie in memory. -/
import Derived.Test.YtakebdeldndaaaaGreatFn1
namespace Go.Proofs.YtakebdeldndaaaaGreat
open Go Go.RowKit
set_option linter.unusedSimpArgs false
set_option linter.unusedVariables false

abbrev Str := List UInt8
structure EvV where
  st : Str
  ty : Str
  tags : List Str
  fields : List (Str × Int)
structure ClV where
  tags : List Str
  types : List Str
structure DefV where
  kind : Int
  field : Str
  q : List ClV
def RField : Rep (Str × Int) := Rep.pair Rep.txt Rep.i64
def RTags : Rep (List Str) := Rep.slice Rep.txt
def RFields : Rep (List (Str × Int)) := Rep.slice RField
def REv : Rep EvV := Rep.of (Rep.pair Rep.txt (Rep.pair Rep.txt (Rep.pair RTags RFields))) fun e => (e.st, e.ty, e.tags, e.fields)
def RCl : Rep ClV := Rep.of (Rep.pair RTags RTags) fun c => (c.tags, c.types)
def RCls : Rep (List ClV) := Rep.slice RCl
def REnt : Rep (Str × Int) := RField
section
variable {w w' : World} {K : Nat → Prop}
theorem slice_rel {α : Type} {R : Rep α} {xs : List α} {cs : List Value} (h : (Rep.slice R).rel w K xs cs) : ∃ A c, cs = [.slice A xs.length c] ∧ SlR R w K A xs.length c xs := by
  obtain ⟨A, c, ds, e, hc, hm, hr, hk⟩ := h
  exact ⟨A, c, e, rfl, hc, hm, ds, hr, hk⟩
theorem slice_mk {α : Type} {R : Rep α} {xs : List α} {A : Option Addr} {n c : Nat} (h : SlR R w K A n c xs) : (Rep.slice R).rel w K xs [.slice A n c] := by
  obtain ⟨rfl, hc, hm, ds, hr, hk⟩ := h
  exact ⟨A, c, ds, rfl, hc, hm, hr, hk⟩
theorem ev_rel {e : EvV} {cs : List Value} (h : REv.rel w K e cs) : ∃ A c B d, cs = [.string (str e.st), .string (str e.ty), .slice A e.tags.length c, .slice B e.fields.length d] ∧ Short e.st ∧ Short e.ty ∧ SlR Rep.txt w K A e.tags.length c e.tags ∧ SlR RField w K B e.fields.length d e.fields := by
  obtain ⟨a, r, rfl, ⟨ha, hsa⟩, b, r2, rfl, ⟨hb, hsb⟩, t, f, rfl, ht, hf⟩ := h
  obtain ⟨A, c, rfl, hA⟩ := slice_rel ht
  obtain ⟨B, d, rfl, hB⟩ := slice_rel hf
  refine ⟨A, c, B, d, ?_, hsa, hsb, hA, hB⟩
  rw [show a = [strV e.st] from ha, show b = [strV e.ty] from hb]; rfl
theorem ev_mk {e : EvV} {A B : Option Addr} {n c m d : Nat} (h1 : Short e.st) (h2 : Short e.ty) (ht : SlR Rep.txt w K A n c e.tags) (hf : SlR RField w K B m d e.fields) : REv.rel w K e [.string (str e.st), .string (str e.ty), .slice A n c, .slice B m d] :=
  ⟨[strV e.st], _, rfl, ⟨rfl, h1⟩, [strV e.ty], _, rfl, ⟨rfl, h2⟩, _, _, rfl, slice_mk ht, slice_mk hf⟩
theorem cl_rel {c : ClV} {cs : List Value} (h : RCl.rel w K c cs) : ∃ A a B b, cs = [.slice A c.tags.length a, .slice B c.types.length b] ∧ SlR Rep.txt w K A c.tags.length a c.tags ∧ SlR Rep.txt w K B c.types.length b c.types := by
  obtain ⟨t, f, rfl, ht, hf⟩ := h
  obtain ⟨A, a, rfl, hA⟩ := slice_rel ht
  obtain ⟨B, b, rfl, hB⟩ := slice_rel hf
  exact ⟨A, a, B, b, rfl, hA, hB⟩
theorem cl_mk {c : ClV} {A B : Option Addr} {n a m b : Nat} (h1 : SlR Rep.txt w K A n a c.tags) (h2 : SlR Rep.txt w K B m b c.types) : RCl.rel w K c [.slice A n a, .slice B m b] := ⟨_, _, rfl, slice_mk h1, slice_mk h2⟩
theorem field_rel {f : Str × Int} {cs : List Value} (h : RField.rel w K f cs) : cs = [.string (str f.1), .int .i64 f.2] ∧ Short f.1 := by
  obtain ⟨a, b, rfl, ⟨ha, hs⟩, hb⟩ := h
  refine ⟨?_, hs⟩
  rw [show a = [strV f.1] from ha, show b = [.int .i64 f.2] from hb]; rfl
theorem field_mk {f : Str × Int} (h : Short f.1) : RField.rel w K f [.string (str f.1), .int .i64 f.2] := ⟨[strV f.1], _, rfl, ⟨rfl, h⟩, rfl⟩
/-- A field of a row. -/
theorem field_at {A : Option Addr} {n c : Nat} {xs : List (Str × Int)} (h : SlR RField w K A n c xs) (i : Nat) (hi : i < xs.length) :
    ∃ b o, A = some ⟨b, o, none⟩ ∧ K b ∧ w.cell? ⟨b, o + i * 2, none⟩ = some (.string (str (xs[i]'hi).1)) ∧ w.cell? ⟨b, o + i * 2 + 1, none⟩ = some (.int .i64 (xs[i]'hi).2) ∧ Short (xs[i]'hi).1 := by
  obtain ⟨b, o, d, e, hk, hd, hg⟩ := h.get (by decide) i hi
  obtain ⟨rfl, hs⟩ := field_rel hd
  have h0 := hg 0 _ rfl
  have h1 := hg 1 _ rfl
  simp only [show RField.size = 2 from rfl, ← Nat.add_assoc, Nat.add_zero] at h0 h1
  exact ⟨b, o, e, hk, h0, h1, hs⟩
/-- A clause of a row. -/
theorem cl_at {A : Option Addr} {n c : Nat} {xs : List ClV} (h : SlR RCl w K A n c xs) (i : Nat) (hi : i < xs.length) :
    ∃ b o T a U u, A = some ⟨b, o, none⟩ ∧ K b ∧ w.cell? ⟨b, o + i * 2, none⟩ = some (.slice T (xs[i]'hi).tags.length a) ∧ w.cell? ⟨b, o + i * 2 + 1, none⟩ = some (.slice U (xs[i]'hi).types.length u) ∧
      SlR Rep.txt w K T (xs[i]'hi).tags.length a (xs[i]'hi).tags ∧ SlR Rep.txt w K U (xs[i]'hi).types.length u (xs[i]'hi).types := by
  obtain ⟨b, o, d, e, hk, hd, hg⟩ := h.get (by decide) i hi
  obtain ⟨T, a, U, u, rfl, h2, h3⟩ := cl_rel hd
  have g0 := hg 0 _ rfl
  have g1 := hg 1 _ rfl
  simp only [show RCl.size = 2 from rfl, ← Nat.add_assoc, Nat.add_zero] at g0 g1
  exact ⟨b, o, T, a, U, u, e, hk, g0, g1, h2, h3⟩
/-- An event of a row. -/
theorem ev_at {A : Option Addr} {n c : Nat} {xs : List EvV} (h : SlR REv w K A n c xs) (i : Nat) (hi : i < xs.length) :
    ∃ b o T a U u, A = some ⟨b, o, none⟩ ∧ K b ∧ w.cell? ⟨b, o + i * 4, none⟩ = some (.string (str (xs[i]'hi).st)) ∧ w.cell? ⟨b, o + i * 4 + 1, none⟩ = some (.string (str (xs[i]'hi).ty)) ∧ w.cell? ⟨b, o + i * 4 + 2, none⟩ = some (.slice T (xs[i]'hi).tags.length a) ∧ w.cell? ⟨b, o + i * 4 + 3, none⟩ = some (.slice U (xs[i]'hi).fields.length u) ∧
      Short (xs[i]'hi).st ∧ Short (xs[i]'hi).ty ∧ SlR Rep.txt w K T (xs[i]'hi).tags.length a (xs[i]'hi).tags ∧ SlR RField w K U (xs[i]'hi).fields.length u (xs[i]'hi).fields := by
  obtain ⟨b, o, d, e, hk, hd, hg⟩ := h.get (by decide) i hi
  obtain ⟨T, a, U, u, rfl, h1, h2, h3, h4⟩ := ev_rel hd
  have g0 := hg 0 _ rfl
  have g1 := hg 1 _ rfl
  have g2 := hg 2 _ rfl
  have g3 := hg 3 _ rfl
  simp only [show REv.size = 4 from rfl, ← Nat.add_assoc, Nat.add_zero] at g0 g1 g2 g3
  exact ⟨b, o, T, a, U, u, e, hk, g0, g1, g2, g3, h1, h2, h3, h4⟩
end
/-- An event as it is handed over. -/
structure EvIn (w : World) (A : Option Addr) (n c : Nat) (B : Option Addr) (m d : Nat) (e : EvV) : Prop where
  st : Short e.st
  ty : Short e.ty
  tags : SlR Rep.txt w (· < w.heap.size) A n c e.tags
  fields : SlR RField w (· < w.heap.size) B m d e.fields
theorem EvIn.grow {w w' : World} {A B : Option Addr} {n c m d : Nat} {e : EvV} (h : EvIn w A n c B m d e) (hE : Ext w w') : EvIn w' A n c B m d e := ⟨h.st, h.ty, h.tags.grow hE, h.fields.grow hE⟩
/-- Its value. -/
def evVal (A : Option Addr) (n c : Nat) (B : Option Addr) (m d : Nat) (e : EvV) : Value := .agg #[.string (str e.st), .string (str e.ty), .slice A n c, .slice B m d]
/-- Behind a new block the cells of it. -/
theorem cells_new (w : World) (xs : List Value) (t : TypeId) (j : Nat) (v : Value) (h : xs[j]? = some v) : (w.alloc (.cells xs.toArray t)).cell? ⟨w.heap.size, j, none⟩ = some v := by
  rw [cell_of_row _ _ _ _ _ _ (heap_alloc_last w _)]
  simpa using h
theorem ext_alloc (w : World) (o : Obj) : Ext w (w.alloc o) := (Below.refl _ _).alloc (Nat.le_refl _) _
end Go.Proofs.YtakebdeldndaaaaGreat
