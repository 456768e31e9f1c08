/- The walk of disk.known, at the raw level. -/
import Derived.Test.YtpipmkaljkhgiaaDoorDisk3
import Derived.Handy
namespace Go.Proofs.YtpipmkaljkhgiaaDoor
open Go Go.RowKit
set_option linter.unusedSimpArgs false
set_option linter.unusedVariables false

theorem cell_below {w w' : World} {p : Addr} {v : Value} (h : Ext w w') (hc : w.cell? p = some v) : w'.cell? p = some v := (h.cell (World.block_lt_of_cell? w p hc)).trans hc
theorem DiskS.set {w : World} {d m : Nat} {q l : Int} (h : DiskS w d m q l) (a : Addr) (x : Value) (hg : d ≠ a.block) : DiskS (w.setCell a x) d m q l := h.of_block (heap_setCell_other w a d x hg)
theorem MapAt.set {w : World} {m : Nat} {G : Raw} (h : MapAt w m G) (a : Addr) (x : Value) (hg : m ≠ a.block) : MapAt (w.setCell a x) m G := by
  obtain ⟨es, clock, e1, e2⟩ := h
  exact ⟨es, clock, by rw [heap_setCell_other w a m x hg]; exact e1, e2⟩
theorem Kept2.set {d m : Nat} {w w1 : World} (h : Kept2 d m w w1) (a : Addr) (x : Value) (hg : w.heap.size ≤ a.block) : Kept2 d m w (w1.setCell a x) :=
  ⟨h.os, h.tape, h.output, by have := h.size; simpa using this, fun k hk h1 h2 => (heap_setCell_other w1 a k x (by omega)).trans (h.block k hk h1 h2)⟩
set_option maxRecDepth 100000 in
set_option maxHeartbeats 1000000 in
theorem known_raw {w : World} {d m : Nat} {q l : Int} {G : Raw} (h : DiskS w d m q l) (hG : MapAt w m G) (hne : d ≠ m) (hl : -9223372036854775808 ≤ l ∧ l ≤ 9223372036854775807) (nm : List UInt8) (hn : nm.length ≤ 9223372036854775807) :
    Calls Tryd.prog 34 #[.pointer (some ⟨d, 0, none⟩), .string (str nm)] w fun e w' => e = .returned (.tuple #[knownV l G nm, .int .i64 (knownE l G nm)]) ∧ DiskS w' d m q (burnL l) ∧ MapAt w' m G ∧ Kept2 d m w w' := by
  have H := hid h
  have HG := hid hG
  have hsh : ∀ v, atL G nm = some v → ∃ A n c sf, v = .agg #[.slice A n c, .int .i64 sf] := fun v hv => by
    have := hG.shape nm hn
    rw [hv] at this
    exact fileShape_inv this
  have hdlt := h.lt
  have hmlt := hG.lt
  clear h hG
  have hzf := zero_file
  unfold zfile at hzf
  go_enter Tryd.func34, Tryd.ntmps34
  go_wp2_with fail
  have E0 := hid ((Below.refl w.heap.size w).alloc (Nat.le_refl _) (.cells #[.slice none 0 0, .int .i64 0] 60))
  have hcc := burnt_raw (H.out.ext E0.out) (HG.out.ext E0.out) hne hl
  refine hcc.mono ?_; clear hcc
  rintro e w1 ⟨rfl, h1, hg1, k1⟩
  have H1 := hid h1; have HG1 := hid hg1
  have K1 := hid ((Kept2.of_ext (d := d) (m := m) E0.out).trans (Kept2.of_grown k1 (.inl rfl)))
  have hb : w1.heap[w.heap.size]? = some (.cells #[.slice none 0 0, .int .i64 0] 60) :=
    (k1.block w.heap.size (by simp) (by simp; omega)).trans (heap_alloc_last w _)
  have r0 : w1.cell? ⟨w.heap.size, 0, none⟩ = some (.slice none 0 0) := by rw [cell_of_row _ _ _ _ _ _ hb]; rfl
  have r1 : w1.cell? ⟨w.heap.size, 1, none⟩ = some (.int .i64 0) := by rw [cell_of_row _ _ _ _ _ _ hb]; rfl
  have f0 : w1.frozen? ⟨w.heap.size, 0, none⟩ = false := by simp [World.frozen?, hb]
  have f1 : w1.frozen? ⟨w.heap.size, 1, none⟩ = false := by simp [World.frozen?, hb]
  have Hb := hid hb
  clear h1 hg1 k1 hb
  by_cases h0 : l = 0
  · have hd := hid (decide_eq_true h0)
    rw [hd.out]
    go_wp2
    (try simp only [Exit.inBlock, Exit.then])
    refine bodyPost_ret (v := .tuple #[zfile, .int .i64 14]) (by simp [results, Tryd.results34, go_sem, r0, r1, zfile]) rfl ?_
    refine ⟨?_, ?_, ?_, ?_⟩
    · unfold knownV knownE
      rw [if_pos h0, if_pos h0]
    · exact (H1.out.set _ _ (by show d ≠ w.heap.size; omega)).set _ _ (by show d ≠ w.heap.size; omega)
    · exact (HG1.out.set _ _ (by show m ≠ w.heap.size; omega)).set _ _ (by show m ≠ w.heap.size; omega)
    · exact (K1.out.set _ _ (Nat.le_refl _)).set _ _ (Nat.le_refl _)
  have hd := hid (decide_eq_false h0)
  rw [hd.out]
  have hlk := HG1.out.look nm hn
  have c2 := H1.out.files
  have hlt1 : w.heap.size < w1.heap.size := by
    have := Hb.out
    exact (Array.getElem?_eq_some_iff.1 this).1
  have rr0 : ∀ o, (w1.alloc o).cell? ⟨w.heap.size, 0, none⟩ = some (.slice none 0 0) := fun o => by rw [cell_of_row _ _ _ _ _ _ ((heap_alloc_old _ _ hlt1).trans Hb.out)]; rfl
  have rr1 : ∀ o, (w1.alloc o).cell? ⟨w.heap.size, 1, none⟩ = some (.int .i64 0) := fun o => by rw [cell_of_row _ _ _ _ _ _ ((heap_alloc_old _ _ hlt1).trans Hb.out)]; rfl
  have ff0 : ∀ o, (w1.alloc o).frozen? ⟨w.heap.size, 0, none⟩ = false := fun o => by simp [World.frozen?, (heap_alloc_old _ _ hlt1).trans Hb.out]
  have ff1 : ∀ o, (w1.alloc o).frozen? ⟨w.heap.size, 1, none⟩ = false := fun o => by simp [World.frozen?, (heap_alloc_old _ _ hlt1).trans Hb.out]
  have hE1 : ∀ o, Hid (DiskS (w1.alloc o) d m q (burnL l) ∧ MapAt (w1.alloc o) m G ∧ Kept2 d m w (w1.alloc o)) := fun o => by
    have hE : Ext w1 (w1.alloc o) := (Below.refl _ _).alloc (Nat.le_refl _) o
    exact ⟨H1.out.ext hE, HG1.out.ext hE, K1.out.trans (Kept2.of_ext hE)⟩
  cases hat : atL G nm with
  | none =>
    rw [hat] at hlk
    simp only [Option.getD_none, Option.isSome_none, zfile] at hlk
    have Hat := hid hat; clear hat
    go_wp2
    (try simp only [Exit.inBlock, Exit.then])
    have e0 : ((w1.setCell ⟨w.heap.size, 0, none⟩ (.slice none 0 0)).setCell ⟨w.heap.size, 1, none⟩ (.int .i64 0)).cell? ⟨w.heap.size, 0, none⟩ = some (.slice none 0 0) := (World.cell?_setCell_other (w := w1.setCell ⟨w.heap.size, 0, none⟩ (.slice none 0 0)) (a := ⟨w.heap.size, 1, none⟩) (b := ⟨w.heap.size, 0, none⟩) (v := (.int .i64 0)) (h := by simp)).trans (World.cell?_setCell_same (w := w1) (a := ⟨w.heap.size, 0, none⟩) (h := r0) ..)
    have e1 : ((w1.setCell ⟨w.heap.size, 0, none⟩ (.slice none 0 0)).setCell ⟨w.heap.size, 1, none⟩ (.int .i64 0)).cell? ⟨w.heap.size, 1, none⟩ = some (.int .i64 0) := World.cell?_setCell_same (w := w1.setCell ⟨w.heap.size, 0, none⟩ (.slice none 0 0)) (a := ⟨w.heap.size, 1, none⟩) (h := (World.cell?_setCell_other (w := w1) (a := ⟨w.heap.size, 0, none⟩) (b := ⟨w.heap.size, 1, none⟩) (v := (.slice none 0 0)) (h := by simp)).trans r1) ..
    have eD := (H1.out.set ⟨w.heap.size, 0, none⟩ (.slice none 0 0) (by show d ≠ w.heap.size; omega)).set ⟨w.heap.size, 1, none⟩ (.int .i64 0) (by show d ≠ w.heap.size; omega)
    have eM := (HG1.out.set ⟨w.heap.size, 0, none⟩ (.slice none 0 0) (by show m ≠ w.heap.size; omega)).set ⟨w.heap.size, 1, none⟩ (.int .i64 0) (by show m ≠ w.heap.size; omega)
    have eK := (K1.out.set ⟨w.heap.size, 0, none⟩ (.slice none 0 0) (Nat.le_refl _)).set ⟨w.heap.size, 1, none⟩ (.int .i64 0) (Nat.le_refl _)
    generalize (w1.setCell ⟨w.heap.size, 0, none⟩ (.slice none 0 0)).setCell ⟨w.heap.size, 1, none⟩ (.int .i64 0) = W at e0 e1 eD eM eK ⊢
    have hE : Ext W (W.alloc (.cells #[(.slice none 0 0), (.int .i64 0)] 60)) := (Below.refl _ _).alloc (Nat.le_refl _) _
    have e0' := cell_below hE e0
    have e1' := cell_below hE e1
    generalize W.alloc (.cells #[(.slice none 0 0), (.int .i64 0)] 60) = W2 at hE e0' e1' ⊢
    refine bodyPost_ret (v := .tuple #[zfile, .int .i64 11]) (by simp [results, Tryd.results34, go_sem, e0', e1', zfile]) rfl ?_
    refine ⟨?_, eD.ext hE, eM.ext hE, eK.trans (Kept2.of_ext hE)⟩
    unfold knownV knownE
    rw [if_neg h0, if_neg h0, Hat.out]; rfl
  | some v =>
    obtain ⟨A, n, c, sf, rfl⟩ := hsh v hat
    rw [hat] at hlk
    simp only [Option.getD_some, Option.isSome_some] at hlk
    have Hat := hid hat; clear hat
    go_wp2
    (try simp only [Exit.inBlock, Exit.then])
    have e0 : ((w1.setCell ⟨w.heap.size, 0, none⟩ (.slice A n c)).setCell ⟨w.heap.size, 1, none⟩ (.int .i64 sf)).cell? ⟨w.heap.size, 0, none⟩ = some (.slice A n c) := (World.cell?_setCell_other (w := w1.setCell ⟨w.heap.size, 0, none⟩ (.slice A n c)) (a := ⟨w.heap.size, 1, none⟩) (b := ⟨w.heap.size, 0, none⟩) (v := (.int .i64 sf)) (h := by simp)).trans (World.cell?_setCell_same (w := w1) (a := ⟨w.heap.size, 0, none⟩) (h := r0) ..)
    have e1 : ((w1.setCell ⟨w.heap.size, 0, none⟩ (.slice A n c)).setCell ⟨w.heap.size, 1, none⟩ (.int .i64 sf)).cell? ⟨w.heap.size, 1, none⟩ = some (.int .i64 sf) := World.cell?_setCell_same (w := w1.setCell ⟨w.heap.size, 0, none⟩ (.slice A n c)) (a := ⟨w.heap.size, 1, none⟩) (h := (World.cell?_setCell_other (w := w1) (a := ⟨w.heap.size, 0, none⟩) (b := ⟨w.heap.size, 1, none⟩) (v := (.slice A n c)) (h := by simp)).trans r1) ..
    have eD := (H1.out.set ⟨w.heap.size, 0, none⟩ (.slice A n c) (by show d ≠ w.heap.size; omega)).set ⟨w.heap.size, 1, none⟩ (.int .i64 sf) (by show d ≠ w.heap.size; omega)
    have eM := (HG1.out.set ⟨w.heap.size, 0, none⟩ (.slice A n c) (by show m ≠ w.heap.size; omega)).set ⟨w.heap.size, 1, none⟩ (.int .i64 sf) (by show m ≠ w.heap.size; omega)
    have eK := (K1.out.set ⟨w.heap.size, 0, none⟩ (.slice A n c) (Nat.le_refl _)).set ⟨w.heap.size, 1, none⟩ (.int .i64 sf) (Nat.le_refl _)
    generalize (w1.setCell ⟨w.heap.size, 0, none⟩ (.slice A n c)).setCell ⟨w.heap.size, 1, none⟩ (.int .i64 sf) = W at e0 e1 eD eM eK ⊢
    have hE : Ext W (W.alloc (.cells #[(.slice A n c), (.int .i64 sf)] 60)) := (Below.refl _ _).alloc (Nat.le_refl _) _
    have e0' := cell_below hE e0
    have e1' := cell_below hE e1
    generalize W.alloc (.cells #[(.slice A n c), (.int .i64 sf)] 60) = W2 at hE e0' e1' ⊢
    refine bodyPost_ret (v := .tuple #[(.agg #[.slice A n c, .int .i64 sf]), .int .i64 0]) (by simp [results, Tryd.results34, go_sem, e0', e1', zfile]) rfl ?_
    refine ⟨?_, eD.ext hE, eM.ext hE, eK.trans (Kept2.of_ext hE)⟩
    unfold knownV knownE
    rw [if_neg h0, if_neg h0, Hat.out]; rfl
end Go.Proofs.YtpipmkaljkhgiaaDoor
