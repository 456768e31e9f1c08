/- A disk in memory: what it is, what leaves it be; the fuse. -/
import Derived.Test.YtpipmkaljkhgiaaDoorDiskMap
import Derived.Test.YtpipmkaljkhgiaaDoorRep
import Derived.Test.YtpipmkaljkhgiaaDoorDisk1
namespace Go.Proofs.YtpipmkaljkhgiaaDoor
open Go Go.RowKit
set_option linter.unusedSimpArgs false
set_option linter.unusedVariables false

structure File where
  b : List UInt8
  safe : Nat
abbrev Files := List (List UInt8 × File)
/-- A file's value: its bytes lie in blocks that nobody writes (S: the blocks that are written). -/
def FileV (w : World) (S : Nat → Prop) (v : Value) (f : File) : Prop :=
  ∃ A c, v = .agg #[.slice A f.b.length c, .int .i64 (f.safe : Int)] ∧ f.b.length ≤ c ∧ c ≤ 9223372036854775807 ∧ f.safe ≤ f.b.length ∧ f.b.length ≤ 65536 ∧ RK w (fun k => k < w.heap.size ∧ ¬ S k) A (bvs f.b)
def Held (w : World) (S : Nat → Prop) : Raw → Files → Prop
  | [], [] => True
  | p :: G, f :: F => p.1 = f.1 ∧ FileV w S p.2 f.2 ∧ Held w S G F
  | _, _ => False
/-- Nothing that was there has changed but two blocks. -/
structure Kept2 (d m : Nat) (w w' : World) : Prop where
  os : w'.os = w.os
  tape : w'.tape = w.tape
  output : w'.output = w.output
  size : w.heap.size ≤ w'.heap.size
  block : ∀ k, k < w.heap.size → k ≠ d → k ≠ m → w'.heap[k]? = w.heap[k]?
theorem Kept2.refl (d m : Nat) (w : World) : Kept2 d m w w := ⟨rfl, rfl, rfl, Nat.le_refl _, fun _ _ _ _ => rfl⟩
theorem Kept2.trans {d m : Nat} {a b c : World} (h : Kept2 d m a b) (k : Kept2 d m b c) : Kept2 d m a c :=
  ⟨k.os.trans h.os, k.tape.trans h.tape, k.output.trans h.output, Nat.le_trans h.size k.size, fun i hi h1 h2 => (k.block i (Nat.lt_of_lt_of_le hi h.size) h1 h2).trans (h.block i hi h1 h2)⟩
theorem Kept2.of_ext {d m : Nat} {a b : World} (h : Ext a b) : Kept2 d m a b := ⟨h.os, h.tape, h.output, h.size, fun k hk _ _ => h.block k hk⟩
theorem Kept2.of_grown {d m g : Nat} {a b : World} (h : a.grownBy b (some g)) (hg : g = d ∨ g = m) : Kept2 d m a b :=
  ⟨h.os, h.tape, h.output, h.size, fun k hk h1 h2 => h.block k hk (fun e => by simp only [Option.some.injEq] at e; rcases hg with rfl | rfl <;> contradiction)⟩
/-- What is below both blocks is as it was. -/
theorem Kept2.below {d m B : Nat} {w w' : World} (h : Kept2 d m w w') (hd : B ≤ d) (hm : B ≤ m) (hB : B ≤ w.heap.size) : Below B w w' :=
  ⟨h.os, h.tape, h.output, h.size, fun k hk => h.block k (by omega) (by omega) (by omega)⟩
theorem FileV.kept {w w' : World} {S : Nat → Prop} {v : Value} {f : File} (h : FileV w S v f) {d m : Nat} (hk : Kept2 d m w w') (hd : S d) (hm : S m) : FileV w' S v f := by
  obtain ⟨A, c, h1, h2, h3, h4, h5, h6⟩ := h
  refine ⟨A, c, h1, h2, h3, h4, h5, (h6.ext fun k hk' => hk.block k hk'.1 ?_ ?_).mono fun k hk' => ⟨Nat.lt_of_lt_of_le hk'.1 hk.size, hk'.2⟩⟩
  · rintro rfl; exact hk'.2 hd
  · rintro rfl; exact hk'.2 hm
theorem Held.kept {w w' : World} {S : Nat → Prop} {d m : Nat} (hk : Kept2 d m w w') (hd : S d) (hm : S m) : ∀ {G : Raw} {F : Files}, Held w S G F → Held w' S G F
  | [], [], _ => trivial
  | _ :: _, _ :: _, ⟨h1, h2, h3⟩ => ⟨h1, h2.kept hk hd hm, h3.kept hk hd hm⟩
theorem Held.length {w : World} {S : Nat → Prop} : ∀ {G : Raw} {F : Files}, Held w S G F → G.length = F.length
  | [], [], _ => rfl
  | _ :: _, _ :: _, ⟨_, _, h⟩ => by simp [h.length]
/-- The struct's own cells. -/
structure DiskS (w : World) (d m : Nat) (q l : Int) : Prop where
  quota : w.cell? ⟨d, 0, none⟩ = some (.int .i64 q)
  left : w.cell? ⟨d, 1, none⟩ = some (.int .i64 l)
  files : w.cell? ⟨d, 2, none⟩ = some (.map (some m))
  free : w.frozen? ⟨d, 1, none⟩ = false
structure DiskAt (w : World) (S : Nat → Prop) (d m : Nat) (q l : Int) (F : Files) : Prop where
  str : DiskS w d m q l
  map : ∃ G, MapAt w m G ∧ Held w S G F
  apart : d ≠ m
  own : S d
  ownM : S m
theorem DiskS.of_block {w w' : World} {d m : Nat} {q l : Int} (h : DiskS w d m q l) (hb : w'.heap[d]? = w.heap[d]?) : DiskS w' d m q l :=
  ⟨(World.cell?_of_block (a := ⟨d, 0, none⟩) hb).trans h.quota, (World.cell?_of_block (a := ⟨d, 1, none⟩) hb).trans h.left, (World.cell?_of_block (a := ⟨d, 2, none⟩) hb).trans h.files, (World.frozen?_of_block (a := ⟨d, 1, none⟩) hb).trans h.free⟩
theorem DiskS.lt {w : World} {d m : Nat} {q l : Int} (h : DiskS w d m q l) : d < w.heap.size := World.block_lt_of_cell? w ⟨d, 0, none⟩ h.quota
/-- Another disk's call leaves this one. -/
theorem DiskAt.kept {w w' : World} {S : Nat → Prop} {d m d' m' : Nat} {q l : Int} {F : Files} (h : DiskAt w S d m q l F) (hk : Kept2 d' m' w w') (hd : S d') (hm : S m') (h1 : d ≠ d') (h2 : d ≠ m') (h3 : m ≠ d') (h4 : m ≠ m') : DiskAt w' S d m q l F := by
  obtain ⟨G, hG, hH⟩ := h.map
  refine ⟨h.str.of_block (hk.block d h.str.lt h1 h2), ⟨G, ?_, hH.kept hk hd hm⟩, h.apart, h.own, h.ownM⟩
  have hlt := hG.lt
  obtain ⟨es, clock, e1, e2⟩ := hG
  exact ⟨es, clock, by rw [hk.block m hlt h3 h4]; exact e1, e2⟩
def burnL (l : Int) : Int := if 0 < l then l - 1 else l
theorem DiskAt.fused {w : World} {S : Nat → Prop} {d m : Nat} {q l l' : Int} {F : Files} (h : DiskAt w S d m q l F) : DiskAt (w.setCell ⟨d, 1, none⟩ (.int .i64 l')) S d m q l' F ∧ Kept2 d m w (w.setCell ⟨d, 1, none⟩ (.int .i64 l')) := by
  have hk : Kept2 d m w (w.setCell ⟨d, 1, none⟩ (.int .i64 l')) := ⟨rfl, rfl, rfl, by simp, fun k hk h1 _ => heap_setCell_other w ⟨d, 1, none⟩ k _ (fun e => h1 e)⟩
  obtain ⟨G, hG, hH⟩ := h.map
  refine ⟨⟨⟨?_, ?_, ?_, ?_⟩, ⟨G, ?_, hH.kept hk h.own h.ownM⟩, h.apart, h.own, h.ownM⟩, hk⟩
  · exact (World.cell?_setCell_other (w := w) (a := ⟨d, 1, none⟩) (b := ⟨d, 0, none⟩) (v := .int .i64 l') (h := by simp)).trans h.str.quota
  · exact World.cell?_setCell_same (w := w) (a := ⟨d, 1, none⟩) (h := h.str.left) ..
  · exact (World.cell?_setCell_other (w := w) (a := ⟨d, 1, none⟩) (b := ⟨d, 2, none⟩) (v := .int .i64 l') (h := by simp)).trans h.str.files
  · simp only [World.frozen?_setCell]; exact h.str.free
  · obtain ⟨es, clock, e1, e2⟩ := hG
    exact ⟨es, clock, by rw [heap_setCell_other w ⟨d, 1, none⟩ m _ (fun e => h.apart e.symm)]; exact e1, e2⟩

theorem burnt_at {w : World} {S : Nat → Prop} {d m : Nat} {q l : Int} {F : Files} (h : DiskAt w S d m q l F) (hl : -9223372036854775808 ≤ l ∧ l ≤ 9223372036854775807) :
    Calls Tryd.prog 49 #[.pointer (some ⟨d, 0, none⟩)] w fun e w' => e = .returned (.bool (decide (l = 0))) ∧ DiskAt w' S d m q (burnL l) F ∧ Kept2 d m w w' := by
  have H := hid h
  have c1 := h.str.left
  have c2 := h.str.free
  have hfus := hid (h.fused (l' := l - 1))
  have hwr : 0 < l → IntKind.i64.wrap (l - 1) = l - 1 := fun h0 => by rw [IntKind.wrap_i64]; omega
  clear h
  unfold burnL
  by_cases h0 : l = 0
  · subst h0
    go_enter Tryd.func49, Tryd.ntmps49
    go_wp2
    go_ret
    exact ⟨rfl, H.out, Kept2.refl _ _ _⟩
  have hne : (l == 0) = false := by rw [beq_eq_false_iff_ne]; exact h0
  have hdec := hid (decide_eq_false h0)
  by_cases hp : 0 < l
  · have hw2 := hwr hp
    clear hwr
    go_enter Tryd.func49, Tryd.ntmps49
    go_wp2
    go_ret
    exact ⟨rfl, hfus.out.1, hfus.out.2⟩
  · clear hwr
    go_enter Tryd.func49, Tryd.ntmps49
    go_wp2
    go_ret
    exact ⟨rfl, by first | exact H.out | (rw [if_neg (by omega)]; exact H.out), Kept2.refl _ _ _⟩
end Go.Proofs.YtpipmkaljkhgiaaDoor
