/- The reference's disk in memory; its small functions: New, burn, May, at. -/
import Derived.Test.YtpipmkaljkhgiaaDoorFound
import Derived.Test.YtpipmkaljkhgiaaDoorDiskTurns
import Derived.WalkLawsBesides
namespace Go.Proofs.YtpipmkaljkhgiaaDoor
open Go Go.RowKit
set_option linter.unusedSimpArgs false
set_option linter.unusedVariables false

def RFile : Rep (List UInt8 × File) := Rep.of (Rep.pair Rep.str (Rep.pair (Rep.slice Rep.u8) Rep.i64)) fun p => (p.1, p.2.b, (p.2.safe : Int))
theorem rfile_rel {w : World} {K : Nat → Prop} {p : List UInt8 × File} {cs : List Value} (h : RFile.rel w K p cs) : ∃ A c, cs = [strV p.1, .slice A p.2.b.length c, .int .i64 (p.2.safe : Int)] ∧ p.2.b.length ≤ c ∧ c ≤ 9223372036854775807 ∧ RK w K A (bvs p.2.b) := by
  obtain ⟨x, d, rfl, h1, y, z, h2, ⟨A, c, ds, h3, hc, hm, hr, hk⟩, h4⟩ := h
  refine ⟨A, c, ?_, hc, hm, by rw [← rows_u8_eq hr]; exact hk⟩
  rw [show x = [strV p.1] from h1, h2, h3, show z = [.int .i64 (p.2.safe : Int)] from h4]; rfl
theorem rfile_mk {w : World} {K : Nat → Prop} {p : List UInt8 × File} {A : Option Addr} {c : Nat} (hc : p.2.b.length ≤ c) (hm : c ≤ 9223372036854775807) (hk : RK w K A (bvs p.2.b)) : RFile.rel w K p [strV p.1, .slice A p.2.b.length c, .int .i64 (p.2.safe : Int)] :=
  ⟨[strV p.1], [.slice A p.2.b.length c, .int .i64 (p.2.safe : Int)], rfl, rfl, [.slice A p.2.b.length c], [.int .i64 (p.2.safe : Int)], rfl, ⟨A, c, bvs p.2.b, rfl, hc, hm, rows_u8 _, hk⟩, rfl⟩
/-- What may be a file. -/
def OkF (F : Files) : Prop := ∀ p ∈ F, p.2.b.length ≤ 65536 ∧ p.2.safe ≤ p.2.b.length
/-- The blocks that nobody writes. -/
abbrev Imm (w : World) (S : Nat → Prop) (k : Nat) : Prop := k < w.heap.size ∧ ¬ S k
structure RefIs (w : World) (S : Nat → Prop) (y g : Nat) (q l : Int) (F : Files) : Prop where
  quota : w.cell? ⟨y, 0, none⟩ = some (.int .i64 q)
  left : w.cell? ⟨y, 1, none⟩ = some (.int .i64 l)
  free : ∀ k, w.frozen? ⟨y, k, none⟩ = false
  row : ∃ v, w.cell? ⟨y, 2, none⟩ = some v ∧ OwnK RFile 75 (Imm w S) w 0 v F ∧ (v.ownBlock = none ∨ (v.ownBlock = some g ∧ g ≠ y))
  own : S y
  ownG : S g
  glt : g < w.heap.size
  fresh : ∀ k, w.heap.size ≤ k → ¬ S k
  few : F.length ≤ 200
  up : Up F
  ok : OkF F
  lr : -9223372036854775808 ≤ l ∧ l ≤ 9223372036854775807
theorem RefIs.lt {w : World} {S : Nat → Prop} {y g : Nat} {q l : Int} {F : Files} (h : RefIs w S y g q l F) : y < w.heap.size := World.block_lt_of_cell? w ⟨y, 0, none⟩ h.quota
theorem RefIs.ext {w w' : World} {S : Nat → Prop} {y g : Nat} {q l : Int} {F : Files} (h : RefIs w S y g q l F) (hE : Ext w w') : RefIs w' S y g q l F := by
  have hb := hE.block y h.lt
  obtain ⟨v, h1, h2, h3⟩ := h.row
  exact ⟨(World.cell?_of_block (a := ⟨y, 0, none⟩) hb).trans h.quota, (World.cell?_of_block (a := ⟨y, 1, none⟩) hb).trans h.left, fun k => (World.frozen?_of_block (a := ⟨y, k, none⟩) hb).trans (h.free k),
    ⟨v, (World.cell?_of_block (a := ⟨y, 2, none⟩) hb).trans h1, (h2.ext hE fun k hk => hk.1).mono fun k hk => ⟨Nat.lt_of_lt_of_le hk.1 hE.size, hk.2⟩, h3⟩, h.own, h.ownG, Nat.lt_of_lt_of_le h.glt hE.size, fun k hk => h.fresh k (Nat.le_trans hE.size hk), h.few, h.up, h.ok, h.lr⟩
/-- Another's call leaves it; S may be told anew. -/
theorem RefIs.kept {w w' : World} {S S' : Nat → Prop} {y g : Nat} {q l : Int} {F : Files} (h : RefIs w S y g q l F) {d m : Nat} (hk : Kept2 d m w w') (hS : ∀ k, k < w.heap.size → (S' k ↔ S k)) (hf : ∀ k, w'.heap.size ≤ k → ¬ S' k) (hd : S d) (hm : S m)
    (h1 : y ≠ d) (h2 : y ≠ m) (h3 : g ≠ d) (h4 : g ≠ m) : RefIs w' S' y g q l F := by
  have hb := hk.block y h.lt h1 h2
  obtain ⟨v, e1, ⟨cs, ho, hr⟩, e3⟩ := h.row
  have hI : ∀ k, Imm w S k → k < w.heap.size ∧ k ≠ d ∧ k ≠ m := fun k hk' => ⟨hk'.1, by rintro rfl; exact hk'.2 hd, by rintro rfl; exact hk'.2 hm⟩
  refine ⟨(World.cell?_of_block (a := ⟨y, 0, none⟩) hb).trans h.quota, (World.cell?_of_block (a := ⟨y, 1, none⟩) hb).trans h.left, fun k => (World.frozen?_of_block (a := ⟨y, k, none⟩) hb).trans (h.free k),
    ⟨v, (World.cell?_of_block (a := ⟨y, 2, none⟩) hb).trans e1, ⟨cs, ?_, ?_⟩, e3⟩, (hS y h.lt).2 h.own, (hS g h.glt).2 h.ownG, Nat.lt_of_lt_of_le h.glt hk.size, hf, h.few, h.up, h.ok, h.lr⟩
  · refine ⟨ho.1, ?_⟩
    rcases ho.2 with h' | ⟨g', cap, cur, rfl, hb', hg, r⟩
    · exact .inl h'
    · refine .inr ⟨g', cap, cur, rfl, hb', ?_, r⟩
      have hgg : g' = g := by
        rcases e3 with e | ⟨e, -⟩
        · simp [Value.ownBlock] at e
        · simpa [Value.ownBlock] using e
      subst hgg
      rw [hk.block g' h.glt h3 h4]; exact hg
  · exact (hr.ext fun k hk' => hk.block k (hI k hk').1 (hI k hk').2.1 (hI k hk').2.2).mono fun k hk' => ⟨Nat.lt_of_lt_of_le hk'.1 hk.size, fun hs => hk'.2 ((hS k hk'.1).1 hs)⟩
/-- What a call of the reference's disk leaves. -/
structure RStep (w w' : World) (S S' : Nat → Prop) (y g : Nat) : Prop where
  kept : Kept2 y g w w'
  same : ∀ k, k < w.heap.size → (S' k ↔ S k)
  fresh : ∀ k, w'.heap.size ≤ k → ¬ S' k
theorem RStep.trans {w w1 w2 : World} {S S1 S2 : Nat → Prop} {y g g1 : Nat} (h : RStep w w1 S S1 y g) (k : RStep w1 w2 S1 S2 y g1) (hg : g1 = g ∨ w.heap.size ≤ g1) : RStep w w2 S S2 y g := by
  refine ⟨⟨k.kept.os.trans h.kept.os, k.kept.tape.trans h.kept.tape, k.kept.output.trans h.kept.output, Nat.le_trans h.kept.size k.kept.size, fun i hi h1 h2 => (k.kept.block i (Nat.lt_of_lt_of_le hi h.kept.size) h1 ?_).trans (h.kept.block i hi h1 h2)⟩, fun i hi => (k.same i (Nat.lt_of_lt_of_le hi h.kept.size)).trans (h.same i hi), k.fresh⟩
  rcases hg with rfl | hg
  · exact h2
  · omega
theorem RStep.of_ext {w w' : World} {S : Nat → Prop} {y g : Nat} (hE : Ext w w') (hf : ∀ k, w.heap.size ≤ k → ¬ S k) : RStep w w' S S y g := ⟨Kept2.of_ext hE, fun _ _ => Iff.rfl, fun k hk => hf k (Nat.le_trans hE.size hk)⟩
/-- The disk beside it. -/
theorem DiskIs.beside {w w' : World} {S S' : Nat → Prop} {d m y g : Nat} {q l : Int} {F : Files} (h : DiskIs w S d m q l F) (hs : RStep w w' S S' y g) (hy : S y) (hg : S g) (h1 : d ≠ y) (h2 : d ≠ g) (h3 : m ≠ y) (h4 : m ≠ g) : DiskIs w' S' d m q l F := by
  obtain ⟨hd, hm⟩ := h.lt
  have h' := h.kept hs.kept hy hg h1 h2 h3 h4
  obtain ⟨G, hG, hH⟩ := h.map
  obtain ⟨G', hG', hH'⟩ := h'.map
  refine ⟨h'.str, ⟨G, ?_, (hH.more hs.same).kept hs.kept ((hs.same y (by by_cases hy' : y < w.heap.size; exact hy'; exact absurd hy (h.fresh y (by omega)))).2 hy) ((hs.same g (by by_cases hg' : g < w.heap.size; exact hg'; exact absurd hg (h.fresh g (by omega)))).2 hg)⟩, h.ne, (hs.same d hd).2 h.own, (hs.same m hm).2 h.ownM, hs.fresh, h.few, h.lr⟩
  obtain ⟨es, clock, e1, e2⟩ := hG
  exact ⟨es, clock, by rw [hs.kept.block m hm h3 h4]; exact e1, e2⟩

/-! ### New, burn, May, at -/
set_option maxRecDepth 100000 in
theorem refNew_at (q : Int) (w : World) (S : Nat → Prop) (hS : ∀ k, w.heap.size ≤ k → ¬ S k) :
    Calls Tryd.prog 23 #[.int .i64 q] w fun e w' => e = .returned (.pointer (some ⟨w.heap.size, 0, none⟩)) ∧ RefIs w' (fun k => S k ∨ k = w.heap.size) w.heap.size w.heap.size (max q 0) (-1) [] ∧ Ext w w' := by
  have hmax := run_max0 q (max q 0) rfl
  obtain ⟨x, hx⟩ : ∃ x, x = max q 0 := ⟨_, rfl⟩
  rw [← hx] at hmax ⊢
  clear hx
  have HS := hid hS; clear hS
  go_enter Tryd.func23, Tryd.ntmps23
  go_wp2
  go_ret
  have hb := heap_alloc_last w (.cells #[.int .i64 x, .int .i64 (-1), .slice none 0 0] 68)
  refine ⟨rfl, ⟨?_, ?_, ?_, ⟨.slice none 0 0, ?_, OwnK.nil _ _, .inl rfl⟩, .inr rfl, .inr rfl, ?_, ?_, by simp, .nil, (by intro p hp; cases hp), by omega⟩, (Below.refl _ _).alloc (Nat.le_refl _) _⟩
  · rw [cell_of_row _ _ _ _ _ _ hb]; rfl
  · rw [cell_of_row _ _ _ _ _ _ hb]; rfl
  · intro k; unfold World.frozen?; dsimp only; rw [hb]; simp
  · rw [cell_of_row _ _ _ _ _ _ hb]; rfl
  · simp
  · intro k hk; simp at hk
    rintro (h | h)
    · exact HS.out k (by omega) h
    · omega
theorem RefIs.relit {w : World} {S : Nat → Prop} {y g : Nat} {q l : Int} {F : Files} (h : RefIs w S y g q l F) (x : Int) (hx : -9223372036854775808 ≤ x ∧ x ≤ 9223372036854775807) : RefIs (w.setCell ⟨y, 1, none⟩ (.int .i64 x)) S y g q x F ∧ Kept2 y g w (w.setCell ⟨y, 1, none⟩ (.int .i64 x)) := by
  have hk : Kept2 y g w (w.setCell ⟨y, 1, none⟩ (.int .i64 x)) := ⟨rfl, rfl, rfl, by simp, fun k hk h1 _ => heap_setCell_other w ⟨y, 1, none⟩ k _ (fun e => h1 e)⟩
  obtain ⟨v, e1, ⟨cs, ho, hr⟩, e3⟩ := h.row
  refine ⟨⟨?_, ?_, ?_, ⟨v, ?_, ⟨cs, ?_, ?_⟩, e3⟩, h.own, h.ownG, by simpa using h.glt, fun k hk' => h.fresh k (by simpa using hk'), h.few, h.up, h.ok, hx⟩, hk⟩
  · exact (World.cell?_setCell_other (w := w) (a := ⟨y, 1, none⟩) (b := ⟨y, 0, none⟩) (v := .int .i64 x) (h := by simp)).trans h.quota
  · exact World.cell?_setCell_same (w := w) (a := ⟨y, 1, none⟩) (h := h.left) ..
  · intro k; simp only [World.frozen?_setCell]; exact h.free k
  · exact (World.cell?_setCell_other (w := w) (a := ⟨y, 1, none⟩) (b := ⟨y, 2, none⟩) (v := .int .i64 x) (h := by simp)).trans e1
  · refine World.ownsRow.kept (row := some y) ho ⟨rfl, rfl, rfl, by simp, fun k _ hk => heap_setCell_other w ⟨y, 1, none⟩ k _ (fun e => hk (by rw [e]))⟩ ?_
    rcases e3 with e | ⟨e, hne⟩
    · exact .inl e
    · exact .inr (by rw [e]; simpa using hne)
  · exact (hr.ext fun k hk' => heap_setCell_other w ⟨y, 1, none⟩ k _ (fun e => hk'.2 (by rw [show k = y from e]; exact h.own))).mono fun k hk' => ⟨by simpa using hk'.1, hk'.2⟩
end Go.Proofs.YtpipmkaljkhgiaaDoor
