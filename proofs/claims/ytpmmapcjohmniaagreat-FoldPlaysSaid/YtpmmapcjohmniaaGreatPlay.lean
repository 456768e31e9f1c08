/- A projection and the document's, side by side. -/
import Derived.Test.YtpmmapcjohmniaaGreatPlMath
import Derived.Test.YtpmmapcjohmniaaGreatRQ5
import Derived.Test.YtpmmapcjohmniaaGreatFoClone
import Derived.Test.YtpmmapcjohmniaaGreatThree
namespace Go.Proofs.YtpmmapcjohmniaaGreat
open Go Go.RowKit
set_option linter.unusedSimpArgs false
set_option linter.unusedVariables false

/-- Both states, what they have each; what turns lies in S, from block n0 on. -/
structure PlayIs (n0 : Nat) (S : Nat → Prop) (s m y : Nat) (d : DefV) (w W : World) (Ds Dr : Ents) : Prop where
  St : StIs W S s m (kdVal d) d.q Ds
  Rf : RefSt W S y d Dr
  lo : ∀ k, S k → n0 ≤ k ∧ k < W.heap.size
  ne : s ≠ y ∧ m ≠ y
  B : Below n0 w W
section
variable {n0 : Nat} {S : Nat → Prop} {s m y : Nat} {d : DefV} {w W W' : World} {Ds Dr D' : Ents}
theorem PlayIs.sz (h : PlayIs n0 S s m y d w W Ds Dr) : n0 ≤ W.heap.size := Nat.le_trans (h.lo _ h.St.sIn).1 (Nat.le_of_lt h.St.lt.1)
theorem PlayIs.ext (h : PlayIs n0 S s m y d w W Ds Dr) (hE : Ext W W') : PlayIs n0 S s m y d w W' Ds Dr :=
  ⟨h.St.ext hE, h.Rf.ext hE, fun k hk => ⟨(h.lo k hk).1, Nat.lt_of_lt_of_le (h.lo k hk).2 hE.size⟩, h.ne, h.B.trans (hE.mono h.sz)⟩
theorem PlayIs.stepS (h : PlayIs n0 S s m y d w W Ds Dr) (hS : StIs W' S s m (kdVal d) d.q D') (hk : Kept2 s m W W') : PlayIs n0 S s m y d w W' D' Dr :=
  ⟨hS, h.Rf.kept hk h.St.sIn h.St.mIn (fun e => h.ne.1 e.symm) (fun e => h.ne.2 e.symm), fun k hk' => ⟨(h.lo k hk').1, Nat.lt_of_lt_of_le (h.lo k hk').2 hk.size⟩, h.ne, h.B.trans (hk.below (h.lo _ h.St.sIn).1 (h.lo _ h.St.mIn).1 h.sz)⟩
theorem PlayIs.stepR (h : PlayIs n0 S s m y d w W Ds Dr) (hR : RefSt W' S y d D') (hk : Kept2 y y W W') : PlayIs n0 S s m y d w W' Ds D' :=
  ⟨h.St.kept hk h.Rf.yIn h.Rf.yIn h.ne.1 h.ne.1 h.ne.2 h.ne.2, hR, fun k hk' => ⟨(h.lo k hk').1, Nat.lt_of_lt_of_le (h.lo k hk').2 hk.size⟩, h.ne, h.B.trans (hk.below (h.lo _ h.Rf.yIn).1 (h.lo _ h.Rf.yIn).1 h.sz)⟩
theorem PlayIs.load (h : PlayIs n0 S s m y d w W Ds Dr) {m' : Nat} (hm : m' = m ∨ W.heap.size ≤ m') (hS : StIs W' (fun k => S k ∨ k = m') s m' (kdVal d) d.q D') (hk : Kept2 s s W W') : PlayIs n0 (fun k => S k ∨ k = m') s m' y d w W' D' Dr := by
  have hR := h.Rf.more (S' := fun k => S k ∨ k = m') (Below.refl _ _) (more_load hm h.St.mIn) (.inl h.Rf.yIn)
  have hy := h.Rf.lt
  refine ⟨hS, hR.kept hk (.inl h.St.sIn) (.inl h.St.sIn) (fun e => h.ne.1 e.symm) (fun e => h.ne.1 e.symm), fun k hk' => ?_, ⟨h.ne.1, ?_⟩, h.B.trans (hk.below (h.lo _ h.St.sIn).1 (h.lo _ h.St.sIn).1 h.sz)⟩
  · rcases hk' with h' | rfl
    · exact ⟨(h.lo k h').1, Nat.lt_of_lt_of_le (h.lo k h').2 hk.size⟩
    · refine ⟨?_, hS.lt.2⟩
      rcases hm with rfl | hm
      · exact (h.lo _ h.St.mIn).1
      · exact Nat.le_trans h.sz hm
  · rcases hm with rfl | hm
    · exact h.ne.2
    · omega
theorem PlayIs.clone (h : PlayIs n0 S s m y d w W Ds Dr) {s' m' : Nat} (hs : W.heap.size ≤ s') (hm : W.heap.size ≤ m') (hS : StIs W' (fun k => S k ∨ k = s' ∨ k = m') s' m' (kdVal d) d.q D') (hE : Ext W W') :
    PlayIs n0 (fun k => S k ∨ k = s' ∨ k = m') s' m' y d w W' D' Dr ∧ StIs W' (fun k => S k ∨ k = s' ∨ k = m') s m (kdVal d) d.q Ds := by
  have hmore : ∀ k, (S k ∨ k = s' ∨ k = m') → S k ∨ W.heap.size ≤ k := fun k hk => by
    rcases hk with h | h | h
    · exact .inl h
    · right; omega
    · right; omega
  have hy := h.Rf.lt
  have hsz := h.sz
  refine ⟨⟨hS, h.Rf.more hE hmore (.inl h.Rf.yIn), fun k hk' => ?_, ⟨by omega, by omega⟩, h.B.trans (hE.mono h.sz)⟩, h.St.more hE hmore (.inl h.St.sIn) (.inl h.St.mIn)⟩
  rcases hk' with h' | h' | h'
  · exact ⟨(h.lo k h').1, Nat.lt_of_lt_of_le (h.lo k h').2 hE.size⟩
  · exact ⟨by omega, by have := hS.lt.1; omega⟩
  · exact ⟨by omega, by have := hS.lt.2; omega⟩
/-- Another state's work beside. -/
theorem PlayIs.beside {a b : Nat} (h : PlayIs n0 S s m y d w W Ds Dr) (hk : Kept2 a b W W') (ha : S a) (hb : S b) (h1 : s ≠ a ∧ s ≠ b ∧ m ≠ a ∧ m ≠ b) (h2 : y ≠ a ∧ y ≠ b) : PlayIs n0 S s m y d w W' Ds Dr :=
  ⟨h.St.kept hk ha hb h1.1 h1.2.1 h1.2.2.1 h1.2.2.2, h.Rf.kept hk ha hb h2.1 h2.2, fun k hk' => ⟨(h.lo k hk').1, Nat.lt_of_lt_of_le (h.lo k hk').2 hk.size⟩, h.ne, h.B.trans (hk.below (h.lo _ ha).1 (h.lo _ hb).1 h.sz)⟩
end
/-- An event of a row, at its place. -/
structure EvAt (W : World) (S : Nat → Prop) (b o : Nat) (T : Option Addr) (t1 t2 : Nat) (U : Option Addr) (u1 u2 : Nat) (e : EvV) : Prop where
  c0 : W.cell? ⟨b, o, none⟩ = some (.string (str e.st))
  c1 : W.cell? ⟨b, o + 1, none⟩ = some (.string (str e.ty))
  c2 : W.cell? ⟨b, o + 2, none⟩ = some (.slice T t1 t2)
  c3 : W.cell? ⟨b, o + 3, none⟩ = some (.slice U u1 u2)
  ev : EvS W S T t1 t2 U u1 u2 e
  out : Out S W b
section
variable {W W' : World} {S S' : Nat → Prop} {b o : Nat} {T U : Option Addr} {t1 t2 u1 u2 : Nat} {e : EvV}
theorem EvAt.cells (h : EvAt W S b o T t1 t2 U u1 u2 e) : W.cell? ⟨b, o, none⟩ = some (.string (str e.st)) ∧ W.cell? ⟨b, o + 1, none⟩ = some (.string (str e.ty)) ∧ W.cell? ⟨b, o + 2, none⟩ = some (.slice T t1 t2) ∧ W.cell? ⟨b, o + 3, none⟩ = some (.slice U u1 u2) ∧ True := ⟨h.c0, h.c1, h.c2, h.c3, trivial⟩
theorem cell_block {i : Nat} {v : Value} (hb : W'.heap[b]? = W.heap[b]?) (h : W.cell? ⟨b, i, none⟩ = some v) : W'.cell? ⟨b, i, none⟩ = some v := by
  have e : W'.cell? ⟨b, i, none⟩ = W.cell? ⟨b, i, none⟩ := by unfold World.cell?; dsimp only; rw [hb]
  rw [e]; exact h
theorem EvAt.kept {a c : Nat} (h : EvAt W S b o T t1 t2 U u1 u2 e) (hk : Kept2 a c W W') (ha : S a) (hc : S c) : EvAt W' S b o T t1 t2 U u1 u2 e := by
  have hb := hk.block b h.out.1 (fun e => h.out.2 (e ▸ ha)) (fun e => h.out.2 (e ▸ hc))
  exact ⟨cell_block hb h.c0, cell_block hb h.c1, cell_block hb h.c2, cell_block hb h.c3, h.ev.kept hk ha hc, ⟨Nat.lt_of_lt_of_le h.out.1 hk.size, h.out.2⟩⟩
theorem EvAt.ext (h : EvAt W S b o T t1 t2 U u1 u2 e) (hE : Ext W W') : EvAt W' S b o T t1 t2 U u1 u2 e := by
  have hb := hE.block b h.out.1
  exact ⟨cell_block hb h.c0, cell_block hb h.c1, cell_block hb h.c2, cell_block hb h.c3, h.ev.ext hE, ⟨Nat.lt_of_lt_of_le h.out.1 hE.size, h.out.2⟩⟩
theorem evAt {A : Option Addr} {n c : Nat} {xs : List EvV} (h : SlR REv W (Out S W) A n c xs) (i : Nat) (hi : i < xs.length) :
    ∃ b o T t1 t2 U u1 u2, A = some ⟨b, o, none⟩ ∧ EvAt W S b (o + i * 4) T t1 t2 U u1 u2 (xs[i]'hi) := by
  obtain ⟨b, o, T, a, U, u, rfl, hk, f0, f1, f2, f3, s1, s2, ht, hu⟩ := ev_at h i hi
  exact ⟨b, o, T, _, a, U, _, u, rfl, f0, f1, f2, f3, ⟨s1, s2, ht, hu⟩, hk⟩
end
end Go.Proofs.YtpmmapcjohmniaaGreat
