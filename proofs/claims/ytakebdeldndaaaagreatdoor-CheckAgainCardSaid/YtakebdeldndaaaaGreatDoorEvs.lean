/- Several texts of this claim's, one behind the other. -/
import Derived.Test.YtakebdeldndaaaaGreatDoorFn1
import Derived.Test.YtakebdeldndaaaaGreatDoorFound
import Derived.Test.YtakebdeldndaaaaGreatDoorNm
/- Events, clauses, queries, entries: how they lie in memory. -/
namespace Go.Proofs.YtakebdeldndaaaaGreatDoor
open Go Go.RowKit
set_option linter.unusedSimpArgs false
set_option linter.unusedVariables false

abbrev Str := List UInt8
structure EvV where
  st : Str
  ty : Str
  tags : List Str
  fields : List (Str × Int)
structure ClV where
  tags : List Str
  types : List Str
structure DefV where
  kind : Int
  field : Str
  q : List ClV
def RField : Rep (Str × Int) := Rep.pair Rep.txt Rep.i64
def RTags : Rep (List Str) := Rep.slice Rep.txt
def RFields : Rep (List (Str × Int)) := Rep.slice RField
def REv : Rep EvV := Rep.of (Rep.pair Rep.txt (Rep.pair Rep.txt (Rep.pair RTags RFields))) fun e => (e.st, e.ty, e.tags, e.fields)
def RCl : Rep ClV := Rep.of (Rep.pair RTags RTags) fun c => (c.tags, c.types)
def RCls : Rep (List ClV) := Rep.slice RCl
def REnt : Rep (Str × Int) := RField
section
variable {w w' : World} {K : Nat → Prop}
theorem slice_rel {α : Type} {R : Rep α} {xs : List α} {cs : List Value} (h : (Rep.slice R).rel w K xs cs) : ∃ A c, cs = [.slice A xs.length c] ∧ SlR R w K A xs.length c xs := by
  obtain ⟨A, c, ds, e, hc, hm, hr, hk⟩ := h
  exact ⟨A, c, e, rfl, hc, hm, ds, hr, hk⟩
theorem slice_mk {α : Type} {R : Rep α} {xs : List α} {A : Option Addr} {n c : Nat} (h : SlR R w K A n c xs) : (Rep.slice R).rel w K xs [.slice A n c] := by
  obtain ⟨rfl, hc, hm, ds, hr, hk⟩ := h
  exact ⟨A, c, ds, rfl, hc, hm, hr, hk⟩
theorem ev_rel {e : EvV} {cs : List Value} (h : REv.rel w K e cs) : ∃ A c B d, cs = [.string (str e.st), .string (str e.ty), .slice A e.tags.length c, .slice B e.fields.length d] ∧ Short e.st ∧ Short e.ty ∧ SlR Rep.txt w K A e.tags.length c e.tags ∧ SlR RField w K B e.fields.length d e.fields := by
  obtain ⟨a, r, rfl, ⟨ha, hsa⟩, b, r2, rfl, ⟨hb, hsb⟩, t, f, rfl, ht, hf⟩ := h
  obtain ⟨A, c, rfl, hA⟩ := slice_rel ht
  obtain ⟨B, d, rfl, hB⟩ := slice_rel hf
  refine ⟨A, c, B, d, ?_, hsa, hsb, hA, hB⟩
  rw [show a = [strV e.st] from ha, show b = [strV e.ty] from hb]; rfl
theorem ev_mk {e : EvV} {A B : Option Addr} {n c m d : Nat} (h1 : Short e.st) (h2 : Short e.ty) (ht : SlR Rep.txt w K A n c e.tags) (hf : SlR RField w K B m d e.fields) : REv.rel w K e [.string (str e.st), .string (str e.ty), .slice A n c, .slice B m d] :=
  ⟨[strV e.st], _, rfl, ⟨rfl, h1⟩, [strV e.ty], _, rfl, ⟨rfl, h2⟩, _, _, rfl, slice_mk ht, slice_mk hf⟩
theorem cl_rel {c : ClV} {cs : List Value} (h : RCl.rel w K c cs) : ∃ A a B b, cs = [.slice A c.tags.length a, .slice B c.types.length b] ∧ SlR Rep.txt w K A c.tags.length a c.tags ∧ SlR Rep.txt w K B c.types.length b c.types := by
  obtain ⟨t, f, rfl, ht, hf⟩ := h
  obtain ⟨A, a, rfl, hA⟩ := slice_rel ht
  obtain ⟨B, b, rfl, hB⟩ := slice_rel hf
  exact ⟨A, a, B, b, rfl, hA, hB⟩
theorem cl_mk {c : ClV} {A B : Option Addr} {n a m b : Nat} (h1 : SlR Rep.txt w K A n a c.tags) (h2 : SlR Rep.txt w K B m b c.types) : RCl.rel w K c [.slice A n a, .slice B m b] := ⟨_, _, rfl, slice_mk h1, slice_mk h2⟩
theorem field_rel {f : Str × Int} {cs : List Value} (h : RField.rel w K f cs) : cs = [.string (str f.1), .int .i64 f.2] ∧ Short f.1 := by
  obtain ⟨a, b, rfl, ⟨ha, hs⟩, hb⟩ := h
  refine ⟨?_, hs⟩
  rw [show a = [strV f.1] from ha, show b = [.int .i64 f.2] from hb]; rfl
theorem field_mk {f : Str × Int} (h : Short f.1) : RField.rel w K f [.string (str f.1), .int .i64 f.2] := ⟨[strV f.1], _, rfl, ⟨rfl, h⟩, rfl⟩
theorem field_at {A : Option Addr} {n c : Nat} {xs : List (Str × Int)} (h : SlR RField w K A n c xs) (i : Nat) (hi : i < xs.length) :
    ∃ b o, A = some ⟨b, o, none⟩ ∧ K b ∧ w.cell? ⟨b, o + i * 2, none⟩ = some (.string (str (xs[i]'hi).1)) ∧ w.cell? ⟨b, o + i * 2 + 1, none⟩ = some (.int .i64 (xs[i]'hi).2) ∧ Short (xs[i]'hi).1 := by
  obtain ⟨b, o, d, e, hk, hd, hg⟩ := h.get (by decide) i hi
  obtain ⟨rfl, hs⟩ := field_rel hd
  have h0 := hg 0 _ rfl
  have h1 := hg 1 _ rfl
  simp only [show RField.size = 2 from rfl, ← Nat.add_assoc, Nat.add_zero] at h0 h1
  exact ⟨b, o, e, hk, h0, h1, hs⟩
theorem cl_at {A : Option Addr} {n c : Nat} {xs : List ClV} (h : SlR RCl w K A n c xs) (i : Nat) (hi : i < xs.length) :
    ∃ b o T a U u, A = some ⟨b, o, none⟩ ∧ K b ∧ w.cell? ⟨b, o + i * 2, none⟩ = some (.slice T (xs[i]'hi).tags.length a) ∧ w.cell? ⟨b, o + i * 2 + 1, none⟩ = some (.slice U (xs[i]'hi).types.length u) ∧
      SlR Rep.txt w K T (xs[i]'hi).tags.length a (xs[i]'hi).tags ∧ SlR Rep.txt w K U (xs[i]'hi).types.length u (xs[i]'hi).types := by
  obtain ⟨b, o, d, e, hk, hd, hg⟩ := h.get (by decide) i hi
  obtain ⟨T, a, U, u, rfl, h2, h3⟩ := cl_rel hd
  have g0 := hg 0 _ rfl
  have g1 := hg 1 _ rfl
  simp only [show RCl.size = 2 from rfl, ← Nat.add_assoc, Nat.add_zero] at g0 g1
  exact ⟨b, o, T, a, U, u, e, hk, g0, g1, h2, h3⟩
theorem ev_at {A : Option Addr} {n c : Nat} {xs : List EvV} (h : SlR REv w K A n c xs) (i : Nat) (hi : i < xs.length) :
    ∃ b o T a U u, A = some ⟨b, o, none⟩ ∧ K b ∧ w.cell? ⟨b, o + i * 4, none⟩ = some (.string (str (xs[i]'hi).st)) ∧ w.cell? ⟨b, o + i * 4 + 1, none⟩ = some (.string (str (xs[i]'hi).ty)) ∧ w.cell? ⟨b, o + i * 4 + 2, none⟩ = some (.slice T (xs[i]'hi).tags.length a) ∧ w.cell? ⟨b, o + i * 4 + 3, none⟩ = some (.slice U (xs[i]'hi).fields.length u) ∧
      Short (xs[i]'hi).st ∧ Short (xs[i]'hi).ty ∧ SlR Rep.txt w K T (xs[i]'hi).tags.length a (xs[i]'hi).tags ∧ SlR RField w K U (xs[i]'hi).fields.length u (xs[i]'hi).fields := by
  obtain ⟨b, o, d, e, hk, hd, hg⟩ := h.get (by decide) i hi
  obtain ⟨T, a, U, u, rfl, h1, h2, h3, h4⟩ := ev_rel hd
  have g0 := hg 0 _ rfl
  have g1 := hg 1 _ rfl
  have g2 := hg 2 _ rfl
  have g3 := hg 3 _ rfl
  simp only [show REv.size = 4 from rfl, ← Nat.add_assoc, Nat.add_zero] at g0 g1 g2 g3
  exact ⟨b, o, T, a, U, u, e, hk, g0, g1, g2, g3, h1, h2, h3, h4⟩
end
structure EvIn (w : World) (A : Option Addr) (n c : Nat) (B : Option Addr) (m d : Nat) (e : EvV) : Prop where
  st : Short e.st
  ty : Short e.ty
  tags : SlR Rep.txt w (· < w.heap.size) A n c e.tags
  fields : SlR RField w (· < w.heap.size) B m d e.fields
theorem EvIn.grow {w w' : World} {A B : Option Addr} {n c m d : Nat} {e : EvV} (h : EvIn w A n c B m d e) (hE : Ext w w') : EvIn w' A n c B m d e := ⟨h.st, h.ty, h.tags.grow hE, h.fields.grow hE⟩
def evVal (A : Option Addr) (n c : Nat) (B : Option Addr) (m d : Nat) (e : EvV) : Value := .agg #[.string (str e.st), .string (str e.ty), .slice A n c, .slice B m d]
theorem cells_new (w : World) (xs : List Value) (t : TypeId) (j : Nat) (v : Value) (h : xs[j]? = some v) : (w.alloc (.cells xs.toArray t)).cell? ⟨w.heap.size, j, none⟩ = some v := by
  rw [cell_of_row _ _ _ _ _ _ (heap_alloc_last w _)]
  simpa using h
theorem ext_alloc (w : World) (o : Obj) : Ext w (w.alloc o) := (Below.refl _ _).alloc (Nat.le_refl _) _
end Go.Proofs.YtakebdeldndaaaaGreatDoor

/- Rows outside of what is written; parts of rows. -/
namespace Go.Proofs.YtakebdeldndaaaaGreatDoor
open Go Go.RowKit
set_option linter.unusedSimpArgs false
set_option linter.unusedVariables false

def Out (S : Nat → Prop) (w : World) (k : Nat) : Prop := k < w.heap.size ∧ ¬ S k
theorem slR_kept {α : Type} {R : Rep α} {w w' : World} {S : Nat → Prop} {A : Option Addr} {n c : Nat} {xs : List α} {d m : Nat} (h : SlR R w (Out S w) A n c xs) (hk : Kept2 d m w w') (hd : S d) (hm : S m) : SlR R w' (Out S w') A n c xs := by
  refine (h.ext fun k hk' => hk.block k hk'.1 ?_ ?_).mono fun k hk' => ⟨Nat.lt_of_lt_of_le hk'.1 hk.size, hk'.2⟩
  · rintro rfl; exact hk'.2 hd
  · rintro rfl; exact hk'.2 hm
theorem slR_out {α : Type} {R : Rep α} {w : World} {S : Nat → Prop} {A : Option Addr} {n c : Nat} {xs : List α} (h : SlR R w (Out S w) A n c xs) : SlR R w (· < w.heap.size) A n c xs := h.mono fun _ hk => hk.1
theorem slR_more {α : Type} {R : Rep α} {w w' : World} {S S' : Nat → Prop} {A : Option Addr} {n c : Nat} {xs : List α} (h : SlR R w (Out S w) A n c xs) (hE : Ext w w') (hS : ∀ k, S' k → S k ∨ w.heap.size ≤ k) : SlR R w' (Out S' w') A n c xs :=
  (h.ext fun k hk => hE.block k hk.1).mono fun k hk => ⟨Nat.lt_of_lt_of_le hk.1 hE.size, fun h' => (hS k h').elim hk.2 (by have := hk.1; omega)⟩
theorem slR_take {α : Type} {R : Rep α} {w : World} {K : Nat → Prop} {A : Option Addr} {n c : Nat} {xs : List α} (h : SlR R w K A n c xs) (k : Nat) (hk : k ≤ n) : SlR R w K A k c (xs.take k) := by
  obtain ⟨h1, h2, h3, cs, hr, hv⟩ := h
  refine ⟨by rw [List.length_take]; omega, by omega, h3, _, hr.take k, ?_⟩
  rcases hv with h | ⟨b, o, e, kb, h⟩
  · exact .inl (by rw [h, List.take_nil])
  · refine .inr ⟨b, o, e, kb, fun j v hv => h j v ?_⟩
    rw [List.getElem?_take] at hv
    split at hv
    · exact hv
    · cases hv
theorem slR_nil {α : Type} {R : Rep α} (w : World) (K : Nat → Prop) : SlR R w K none 0 0 [] := ⟨rfl, Nat.le_refl _, by decide, [], rfl, .inl rfl⟩
theorem slR_box {α : Type} {R : Rep α} {w : World} {K : Nat → Prop} {x : α} {cs : List Value} {t : TypeId} (h : R.rel (w.alloc (.cells cs.toArray t)) K x cs) (hK : K w.heap.size) : SlR R (w.alloc (.cells cs.toArray t)) K (some ⟨w.heap.size, 0, none⟩) 1 1 [x] :=
  ⟨rfl, Nat.le_refl _, by decide, cs, Rows.single h, .inr ⟨_, _, rfl, hK, fun j v hv => by rw [Nat.zero_add]; exact cells_new w cs t j v hv⟩⟩
theorem slR_drop {α : Type} {R : Rep α} {w : World} {K : Nat → Prop} {b o n c : Nat} {xs : List α} (h : SlR R w K (some ⟨b, o, none⟩) n c xs) (k : Nat) (hk : k ≤ n) : SlR R w K (some ⟨b, o + k * R.size, none⟩) (n - k) (c - k) (xs.drop k) := by
  obtain ⟨h1, h2, h3, cs, hr, hv⟩ := h
  refine ⟨by rw [List.length_drop]; omega, by omega, by omega, _, hr.drop k, ?_⟩
  rcases hv with h | ⟨b', o', e, kb, h⟩
  · exact .inl (by rw [h, List.drop_nil])
  · simp only [Option.some.injEq, Addr.mk.injEq, and_true] at e
    obtain ⟨rfl, rfl⟩ := e
    refine .inr ⟨b, _, rfl, kb, fun j v hv => ?_⟩
    rw [List.getElem?_drop] at hv
    have := h _ v hv
    rwa [show o + (k * R.size + j) = o + k * R.size + j by omega] at this
theorem heap_setCell_row {w : World} {s o : Nat} {cs : Array Value} {t : TypeId} {f} (h : w.heap[s]? = some (.cells cs t f)) (v : Value) : (w.setCell ⟨s, o, none⟩ v).heap[s]? = some (.cells (cs.setIfInBounds o v) t f) := by
  simp [World.setCell, Array.getElem?_modify, h]
end Go.Proofs.YtakebdeldndaaaaGreatDoor

/- What an event has: Has and Value, of the program and of the document; texts that rise. -/
namespace Go.Proofs.YtakebdeldndaaaaGreatDoor
open Go Go.RowKit
set_option linter.unusedSimpArgs false
set_option linter.unusedVariables false

def hasT (tags : List Str) (t : Str) : Bool := tags.any (t == ·)
def valF (fs : List (Str × Int)) (f : Str) : Option Int := (fs.find? (·.1 == f)).map (·.2)
def EvBox (bx : Nat) (A : Option Addr) (n c : Nat) (B : Option Addr) (m d : Nat) (e : EvV) (w : World) : Prop :=
  w.heap[bx]? = some (.cells #[.string (str e.st), .string (str e.ty), .slice A n c, .slice B m d] 113)
theorem EvBox.cells {bx : Nat} {A B : Option Addr} {n c m d : Nat} {e : EvV} {w : World} (h : EvBox bx A n c B m d e w) :
    w.cell? ⟨bx, 0, none⟩ = some (.string (str e.st)) ∧ w.cell? ⟨bx, 1, none⟩ = some (.string (str e.ty)) ∧ w.cell? ⟨bx, 2, none⟩ = some (.slice A n c) ∧ w.cell? ⟨bx, 3, none⟩ = some (.slice B m d) := by
  refine ⟨?_, ?_, ?_, ?_⟩ <;> · rw [cell_of_row _ _ _ _ _ _ h]; rfl
theorem EvBox.ext {bx : Nat} {A B : Option Addr} {n c m d : Nat} {e : EvV} {w w' : World} (h : EvBox bx A n c B m d e w) (hE : Ext w w') : EvBox bx A n c B m d e w' := (hE.block bx (Array.getElem?_eq_some_iff.1 h).1).trans h
theorem find_upto {fs : List (Str × Int)} {f : Str} {k : Nat} (hk : k < fs.length) (he : (fs[k].1 == f) = true) (hno : ∀ j (hj : j < k) (h : j < fs.length), (fs[j].1 == f) = false) : valF fs f = some fs[k].2 := by
  unfold valF
  have : fs.find? (·.1 == f) = some fs[k] := by
    rw [List.find?_eq_some_iff_getElem]
    exact ⟨he, k, hk, rfl, fun j hj => by simpa using hno j hj (by omega)⟩
  rw [this]; rfl
theorem find_no {fs : List (Str × Int)} {f : Str} (hno : ∀ j (h : j < fs.length), (fs[j].1 == f) = false) : valF fs f = none := by
  unfold valF
  have : fs.find? (·.1 == f) = none := by
    rw [List.find?_eq_none]
    intro x hx
    obtain ⟨j, hj, rfl⟩ := List.getElem_of_mem hx
    rw [hno j hj]; decide
  rw [this]; rfl
set_option maxRecDepth 100000 in
set_option maxHeartbeats 4000000 in
theorem refHas_at {w : World} {A B : Option Addr} {n c m d : Nat} {e : EvV} (h : EvIn w A n c B m d e) (t : Str) :
    Calls Tryz.prog 207 #[evVal A n c B m d e, .string (str t)] w fun x w' => x = .returned (.bool (hasT e.tags t)) ∧ Ext w w' := by
  unfold evVal
  have hn := hid h.tags.1
  have hnc := h.tags.2.1
  have hcm := h.tags.2.2.1
  have hst := str_toList
  have H := hid h
  clear h
  go_enter Tryz.func207, Tryz.ntmps207
  go_wp2_with fail
  have HE0 := hid (ext_alloc (w) (.cells #[.string (str e.st), .string (str e.ty), .slice A n c, .slice B m d] 113))
  have Hbx := hid (show EvBox (w).heap.size A n c B m d e ((w).alloc (.cells #[.string (str e.st), .string (str e.ty), .slice A n c, .slice B m d] 113)) from heap_alloc_last _ _)
  generalize w.alloc (.cells #[.string (str e.st), .string (str e.ty), .slice A n c, .slice B m d] 113) = w1 at HE0 Hbx ⊢
  go_loop [5] (fun i => ∃ k : Nat, k ≤ n ∧ i = .int .i64 (k : Int) ∧ Hid (∀ j (hj : j < k) (h : j < e.tags.length), (t == e.tags[j]) = false)) (fun i => n - (intOf i).toNat)
  case atStart => exact ⟨0, by omega, rfl, fun j hj => by omega⟩
  case round =>
    obtain ⟨k, hk, rfl, HN⟩ := hrel
    obtain ⟨-, -, b2, -⟩ := Hbx.out.cells
    by_cases hlt : k < n
    · have hkx : k < e.tags.length := by have := hn.out; omega
      have hlt' : (k : Int) < (n : Int) := by omega
      have hk00 : ¬ ((k : Int) < 0) := by omega
      have hk0 : (0 : Int) ≤ (k : Int) := by omega
      obtain ⟨b, o, rfl, -, f0, -⟩ := txt_at (H.out.grow HE0.out).tags k hkx
      cases hpx : (t == e.tags[k])
      · have hn2 := hid (prefix_next (p := (t == ·)) HN.out hkx hpx)
        have hpy : (e.tags[k] == t) = false := by rw [← hpx]; exact Bool.eq_iff_iff.2 (by simp only [beq_iff_eq]; exact eq_comm)
        generalize e.tags[k] = x at f0 hpy
        clear hpx
        go_wp2_with fail
        go_round
        case rel => exact ⟨k + 1, by omega, by go_num, hn2⟩
        case measure => simp [intOf]; omega
      · have hb := hid (show hasT e.tags t = true from List.any_eq_true.2 ⟨_, List.getElem_mem hkx, hpx⟩)
        have hpy : (e.tags[k] == t) = true := by rw [← hpx]; exact Bool.eq_iff_iff.2 (by simp only [beq_iff_eq]; exact eq_comm)
        generalize e.tags[k] = x at f0 hpy
        clear hpx
        go_wp2
        go_ret
        exact ⟨by rw [hb.out]; rfl, HE0.out⟩
    · obtain rfl : k = n := by omega
      have hlt' : ¬ ((k : Int) < (k : Int)) := by omega
      have hb := hid (show hasT e.tags t = false by
        unfold hasT
        rw [List.any_eq_false]
        intro x hx
        obtain ⟨j, hj, rfl⟩ := List.getElem_of_mem hx
        rw [HN.out j (by have := hn.out; omega) hj]; decide)
      go_wp2
      go_ret
      exact ⟨by rw [hb.out]; rfl, HE0.out⟩
set_option maxRecDepth 100000 in
theorem has_at {w : World} {A B : Option Addr} {n c m d : Nat} {e : EvV} (h : EvIn w A n c B m d e) (t : Str) :
    Calls Tryz.prog 185 #[evVal A n c B m d e, .string (str t)] w fun x w' => x = .returned (.bool (hasT e.tags t)) ∧ Ext w w' := by
  unfold evVal
  have H := hid h
  clear h
  have HE0 := hid (ext_alloc (w) (.cells #[.string (str e.st), .string (str e.ty), .slice A n c, .slice B m d] 113))
  have Hbx := hid (show EvBox (w).heap.size A n c B m d e ((w).alloc (.cells #[.string (str e.st), .string (str e.ty), .slice A n c, .slice B m d] 113)) from heap_alloc_last _ _)
  obtain ⟨-, -, b2, -⟩ := Hbx.out.cells
  go_enter Tryz.func185, Tryz.ntmps185
  go_wp2_with fail
  refine (contains_txt (H.out.grow HE0.out).tags t).mono ?_
  rintro x w' ⟨rfl, rfl⟩
  clear b2
  go_wp2
  go_ret
  exact ⟨rfl, HE0.out⟩
set_option maxRecDepth 100000 in
set_option maxHeartbeats 4000000 in
theorem refValue_at {w : World} {A B : Option Addr} {n c m d : Nat} {e : EvV} (h : EvIn w A n c B m d e) (t : Str) :
    Calls Tryz.prog 145 #[evVal A n c B m d e, .string (str t)] w fun x w' => x = .returned (.tuple #[.int .i64 ((valF e.fields t).getD 0), .bool (valF e.fields t).isSome]) ∧ Ext w w' := by
  unfold evVal
  have hn := hid h.fields.1
  have hnc := h.fields.2.1
  have hcm := h.fields.2.2.1
  have hst := str_toList
  have H := hid h
  clear h
  go_enter Tryz.func145, Tryz.ntmps145
  go_wp2_with fail
  have HE0 := hid (ext_alloc (w) (.cells #[.string (str e.st), .string (str e.ty), .slice A n c, .slice B m d] 113))
  have Hbx := hid (show EvBox (w).heap.size A n c B m d e ((w).alloc (.cells #[.string (str e.st), .string (str e.ty), .slice A n c, .slice B m d] 113)) from heap_alloc_last _ _)
  generalize w.alloc (.cells #[.string (str e.st), .string (str e.ty), .slice A n c, .slice B m d] 113) = w1 at HE0 Hbx ⊢
  go_loop [6] (fun i => ∃ k : Nat, k ≤ m ∧ i = .int .i64 (k : Int) ∧ Hid (∀ j (hj : j < k) (h : j < e.fields.length), (e.fields[j].1 == t) = false)) (fun i => m - (intOf i).toNat)
  case atStart => exact ⟨0, by omega, rfl, fun j hj => by omega⟩
  case round =>
    obtain ⟨k, hk, rfl, HN⟩ := hrel
    obtain ⟨-, -, -, b3⟩ := Hbx.out.cells
    by_cases hlt : k < m
    · have hkx : k < e.fields.length := by have := hn.out; omega
      have hlt' : (k : Int) < (m : Int) := by omega
      have hk00 : ¬ ((k : Int) < 0) := by omega
      have hk0 : (0 : Int) ≤ (k : Int) := by omega
      obtain ⟨b, o, rfl, -, f0, f1, -⟩ := field_at (H.out.grow HE0.out).fields k hkx
      cases hpx : (e.fields[k].1 == t)
      · have hn2 := hid (prefix_next (p := fun f : Str × Int => f.1 == t) HN.out hkx hpx)
        generalize e.fields[k].1 = x at f0 hpx
        clear f1
        go_wp2_with fail
        go_round
        case rel => exact ⟨k + 1, by omega, by go_num, hn2⟩
        case measure => simp [intOf]; omega
      · have hb := hid (find_upto hkx hpx HN.out)
        generalize e.fields[k].1 = x at f0 hpx
        generalize e.fields[k].2 = y at f1 hb
        go_wp2
        go_ret2
        exact ⟨by rw [hb.out]; rfl, HE0.out⟩
    · obtain rfl : k = m := by omega
      have hlt' : ¬ ((k : Int) < (k : Int)) := by omega
      have hb := hid (find_no (fs := e.fields) (f := t) fun j h => HN.out j (by have := hn.out; omega) h)
      go_wp2
      go_ret2
      exact ⟨by rw [hb.out]; rfl, HE0.out⟩
set_option maxRecDepth 100000 in
set_option maxHeartbeats 4000000 in
theorem value_at {w : World} {A B : Option Addr} {n c m d : Nat} {e : EvV} (h : EvIn w A n c B m d e) (t : Str) :
    Calls Tryz.prog 239 #[evVal A n c B m d e, .string (str t)] w fun x w' => x = .returned (.tuple #[.int .i64 ((valF e.fields t).getD 0), .bool (valF e.fields t).isSome]) ∧ Ext w w' := by
  unfold evVal
  have hn := hid h.fields.1
  have hnc := h.fields.2.1
  have hcm := h.fields.2.2.1
  have hst := str_toList
  have H := hid h
  clear h
  have HE0 := hid (ext_alloc (w) (.cells #[.string (str e.st), .string (str e.ty), .slice A n c, .slice B m d] 113))
  have Hbx := hid (show EvBox (w).heap.size A n c B m d e ((w).alloc (.cells #[.string (str e.st), .string (str e.ty), .slice A n c, .slice B m d] 113)) from heap_alloc_last _ _)
  obtain ⟨-, -, -, b3⟩ := Hbx.out.cells
  go_enter Tryz.func239, Tryz.ntmps239
  go_wp2_with fail
  clear b3
  go_loopw [11] (fun i wr => ∃ k : Nat, k ≤ m ∧ i = .int .i64 (k : Int) ∧ Hid (Ext w wr) ∧ Hid (∀ j (hj : j < k) (h : j < e.fields.length), (e.fields[j].1 == t) = false)) (fun i _ => m - (intOf i).toNat)
  case atStart => exact ⟨0, by omega, rfl, HE0, fun j hj => by omega⟩
  case round =>
    obtain ⟨k, hk, rfl, HE, HN⟩ := hrel
    by_cases hlt : k < m
    · have hkx : k < e.fields.length := by have := hn.out; omega
      have hlt' : (k : Int) < (m : Int) := by omega
      have hk00 : ¬ ((k : Int) < 0) := by omega
      have hk0 : (0 : Int) ≤ (k : Int) := by omega
      obtain ⟨b, o, rfl, -, f0, f1, -⟩ := field_at (H.out.grow HE.out).fields k hkx
      cases hpx : (e.fields[k].1 == t)
      · have hn2 := hid (prefix_next (p := fun f : Str × Int => f.1 == t) HN.out hkx hpx)
        generalize e.fields[k].1 = x at f0 hpx
        generalize e.fields[k].2 = y at f1
        go_wp2_with fail
        go_roundw
        case rel => exact ⟨k + 1, by omega, by go_num, Ext.trans' HE.out (ext_alloc _ _), hn2⟩
        case measure => simp [intOf]; omega
      · have hb := hid (find_upto hkx hpx HN.out)
        generalize e.fields[k].1 = x at f0 hpx
        generalize e.fields[k].2 = y at f1 hb
        go_wp2
        go_ret2
        exact ⟨by rw [hb.out]; rfl, Ext.trans' HE.out (ext_alloc _ _)⟩
    · obtain rfl : k = m := by omega
      have hlt' : ¬ ((k : Int) < (k : Int)) := by omega
      have hb := hid (find_no (fs := e.fields) (f := t) fun j h => HN.out j (by have := hn.out; omega) h)
      go_wp2
      go_ret2
      exact ⟨by rw [hb.out]; rfl, HE.out⟩
end Go.Proofs.YtakebdeldndaaaaGreatDoor

