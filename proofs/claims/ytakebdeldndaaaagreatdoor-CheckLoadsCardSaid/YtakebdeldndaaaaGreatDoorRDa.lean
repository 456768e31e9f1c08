/- Several texts of this claim's, one behind the other. -/
import Derived.Test.YtakebdeldndaaaaGreatDoorStor2
import Derived.Test.YtakebdeldndaaaaGreatDoorFound
import Derived.WalkLawsBesides
import Derived.Test.YtakebdeldndaaaaGreatDoorSv
/- A disk of a law's own: more of it. -/
namespace Go.Proofs.YtakebdeldndaaaaGreatDoor
open Go Go.RowKit
set_option linter.unusedSimpArgs false
set_option linter.unusedVariables false
theorem DiskIs.lt {w : World} {S : Nat → Prop} {d m : Nat} {q l : Int} {F : Files} (h : DiskIs w S d m q l F) : d < w.heap.size ∧ m < w.heap.size := by
 obtain ⟨G, hG, -⟩ := h.map
 exact ⟨h.str.lt, hG.lt⟩
set_option maxRecDepth 100000 in
theorem MapAt.short {w : World} {m : Nat} {G : Raw} (h : MapAt w m G) : ∀ p ∈ G, p.1.length ≤ 9223372036854775807 := by
 intro p hp
 obtain ⟨es, clock, -, F, -, h4⟩ := h
 have h4' : rawL G = (es.toList.map (WideElems.rg Tryz.prog 9 rawE)).foldr DataW.insert [] := by
  have := congrArg (fun d : DataW Value => match d with | .map l => l | _ => []) h4
  exact this
 have hm : ((Lit.string p.1, DataW.held p.2) : Lit × DataW Value) ∈ rawL G := List.mem_map.2 ⟨p, hp, rfl⟩
 rw [h4'] at hm
 obtain ⟨x, hx, e⟩ := List.mem_map.1 ((WideShapes.sorted_perm _).mem_iff.1 hm)
 obtain ⟨y, hy⟩ := F.reads x hx
 rw [WideElems.rg_of hy] at e
 have hk := WideElems.rd_key hy
 rw [e] at hk
 unfold keyOf mapKey at hk
 rw [Tryz.underlying9] at hk
 simp only at hk
 split at hk <;> simp at hk
 obtain ⟨h1, h2⟩ := hk
 rw [← h2]
 simp only [maxLen] at h1
 simpa using h1
theorem DiskIs.short {w : World} {S : Nat → Prop} {d m : Nat} {q l : Int} {F : Files} (h : DiskIs w S d m q l F) : ∀ p ∈ F, p.1.length ≤ 9223372036854775807 := by
 intro p hp
 obtain ⟨G, hG, hH⟩ := h.map
 have : p.1 ∈ G.map (·.1) := by rw [hH.names]; exact List.mem_map_of_mem hp
 obtain ⟨q, hq, e⟩ := List.mem_map.1 this
 rw [← e]
 exact hG.short q hq
end Go.Proofs.YtakebdeldndaaaaGreatDoor
/- The reference's disk in memory; its small functions: New, burn, May, at. -/
namespace Go.Proofs.YtakebdeldndaaaaGreatDoor
open Go Go.RowKit
set_option linter.unusedSimpArgs false
set_option linter.unusedVariables false
def RFile : Rep (List UInt8 × File) := Rep.of (Rep.pair Rep.str (Rep.pair (Rep.slice Rep.u8) Rep.i64)) fun p => (p.1, p.2.b, (p.2.safe : Int))
theorem rfile_rel {w : World} {K : Nat → Prop} {p : List UInt8 × File} {cs : List Value} (h : RFile.rel w K p cs) : ∃ A c, cs = [strV p.1, .slice A p.2.b.length c, .int .i64 (p.2.safe : Int)] ∧ p.2.b.length ≤ c ∧ c ≤ 9223372036854775807 ∧ RK w K A (bvs p.2.b) := by
 obtain ⟨x, d, rfl, h1, y, z, h2, ⟨A, c, ds, h3, hc, hm, hr, hk⟩, h4⟩ := h
 refine ⟨A, c, ?_, hc, hm, by rw [← rows_u8_eq hr]; exact hk⟩
 rw [show x = [strV p.1] from h1, h2, h3, show z = [.int .i64 (p.2.safe : Int)] from h4]; rfl
theorem rfile_mk {w : World} {K : Nat → Prop} {p : List UInt8 × File} {A : Option Addr} {c : Nat} (hc : p.2.b.length ≤ c) (hm : c ≤ 9223372036854775807) (hk : RK w K A (bvs p.2.b)) : RFile.rel w K p [strV p.1, .slice A p.2.b.length c, .int .i64 (p.2.safe : Int)] :=
 ⟨[strV p.1], [.slice A p.2.b.length c, .int .i64 (p.2.safe : Int)], rfl, rfl, [.slice A p.2.b.length c], [.int .i64 (p.2.safe : Int)], rfl, ⟨A, c, bvs p.2.b, rfl, hc, hm, rows_u8 _, hk⟩, rfl⟩
def OkF (F : Files) : Prop := ∀ p ∈ F, p.2.b.length ≤ 65536 ∧ p.2.safe ≤ p.2.b.length
abbrev Imm (w : World) (S : Nat → Prop) (k : Nat) : Prop := k < w.heap.size ∧ ¬ S k
structure RefIs (w : World) (S : Nat → Prop) (y g : Nat) (q l : Int) (F : Files) : Prop where
 quota : w.cell? ⟨y, 0, none⟩ = some (.int .i64 q)
 left : w.cell? ⟨y, 1, none⟩ = some (.int .i64 l)
 free : ∀ k, w.frozen? ⟨y, k, none⟩ = false
 row : ∃ v, w.cell? ⟨y, 2, none⟩ = some v ∧ OwnK RFile 88 (Imm w S) w 0 v F ∧ (v.ownBlock = none ∨ (v.ownBlock = some g ∧ g ≠ y))
 own : S y
 ownG : S g
 glt : g < w.heap.size
 fresh : ∀ k, w.heap.size ≤ k → ¬ S k
 few : F.length ≤ 200
 up : Up F
 ok : OkF F
 lr : -9223372036854775808 ≤ l ∧ l ≤ 9223372036854775807
theorem RefIs.lt {w : World} {S : Nat → Prop} {y g : Nat} {q l : Int} {F : Files} (h : RefIs w S y g q l F) : y < w.heap.size := World.block_lt_of_cell? w ⟨y, 0, none⟩ h.quota
theorem RefIs.ext {w w' : World} {S : Nat → Prop} {y g : Nat} {q l : Int} {F : Files} (h : RefIs w S y g q l F) (hE : Ext w w') : RefIs w' S y g q l F := by
 have hb := hE.block y h.lt
 obtain ⟨v, h1, h2, h3⟩ := h.row
 exact ⟨(World.cell?_of_block (a := ⟨y, 0, none⟩) hb).trans h.quota, (World.cell?_of_block (a := ⟨y, 1, none⟩) hb).trans h.left, fun k => (World.frozen?_of_block (a := ⟨y, k, none⟩) hb).trans (h.free k),
  ⟨v, (World.cell?_of_block (a := ⟨y, 2, none⟩) hb).trans h1, (h2.ext hE fun k hk => hk.1).mono fun k hk => ⟨Nat.lt_of_lt_of_le hk.1 hE.size, hk.2⟩, h3⟩, h.own, h.ownG, Nat.lt_of_lt_of_le h.glt hE.size, fun k hk => h.fresh k (Nat.le_trans hE.size hk), h.few, h.up, h.ok, h.lr⟩
theorem RefIs.kept {w w' : World} {S S' : Nat → Prop} {y g : Nat} {q l : Int} {F : Files} (h : RefIs w S y g q l F) {d m : Nat} (hk : Kept2 d m w w') (hS : ∀ k, k < w.heap.size → (S' k ↔ S k)) (hf : ∀ k, w'.heap.size ≤ k → ¬ S' k) (hd : S d) (hm : S m)
  (h1 : y ≠ d) (h2 : y ≠ m) (h3 : g ≠ d) (h4 : g ≠ m) : RefIs w' S' y g q l F := by
 have hb := hk.block y h.lt h1 h2
 obtain ⟨v, e1, ⟨cs, ho, hr⟩, e3⟩ := h.row
 have hI : ∀ k, Imm w S k → k < w.heap.size ∧ k ≠ d ∧ k ≠ m := fun k hk' => ⟨hk'.1, by rintro rfl; exact hk'.2 hd, by rintro rfl; exact hk'.2 hm⟩
 refine ⟨(World.cell?_of_block (a := ⟨y, 0, none⟩) hb).trans h.quota, (World.cell?_of_block (a := ⟨y, 1, none⟩) hb).trans h.left, fun k => (World.frozen?_of_block (a := ⟨y, k, none⟩) hb).trans (h.free k),
  ⟨v, (World.cell?_of_block (a := ⟨y, 2, none⟩) hb).trans e1, ⟨cs, ?_, ?_⟩, e3⟩, (hS y h.lt).2 h.own, (hS g h.glt).2 h.ownG, Nat.lt_of_lt_of_le h.glt hk.size, hf, h.few, h.up, h.ok, h.lr⟩
 ·refine ⟨ho.1, ?_⟩
  rcases ho.2 with h' | ⟨g', cap, cur, rfl, hb', hg, r⟩
  ·exact .inl h'
  ·refine .inr ⟨g', cap, cur, rfl, hb', ?_, r⟩
   have hgg : g' = g := by
    rcases e3 with e | ⟨e, -⟩
    ·simp [Value.ownBlock] at e
    ·simpa [Value.ownBlock] using e
   subst hgg
   rw [hk.block g' h.glt h3 h4]; exact hg
 ·exact (hr.ext fun k hk' => hk.block k (hI k hk').1 (hI k hk').2.1 (hI k hk').2.2).mono fun k hk' => ⟨Nat.lt_of_lt_of_le hk'.1 hk.size, fun hs => hk'.2 ((hS k hk'.1).1 hs)⟩
structure RStep (w w' : World) (S S' : Nat → Prop) (y g : Nat) : Prop where
 kept : Kept2 y g w w'
 same : ∀ k, k < w.heap.size → (S' k ↔ S k)
 fresh : ∀ k, w'.heap.size ≤ k → ¬ S' k
theorem RStep.trans {w w1 w2 : World} {S S1 S2 : Nat → Prop} {y g g1 : Nat} (h : RStep w w1 S S1 y g) (k : RStep w1 w2 S1 S2 y g1) (hg : g1 = g ∨ w.heap.size ≤ g1) : RStep w w2 S S2 y g := by
 refine ⟨⟨k.kept.os.trans h.kept.os, k.kept.tape.trans h.kept.tape, k.kept.output.trans h.kept.output, Nat.le_trans h.kept.size k.kept.size, fun i hi h1 h2 => (k.kept.block i (Nat.lt_of_lt_of_le hi h.kept.size) h1 ?_).trans (h.kept.block i hi h1 h2)⟩, fun i hi => (k.same i (Nat.lt_of_lt_of_le hi h.kept.size)).trans (h.same i hi), k.fresh⟩
 rcases hg with rfl | hg
 ·exact h2
 ·omega
theorem RStep.of_ext {w w' : World} {S : Nat → Prop} {y g : Nat} (hE : Ext w w') (hf : ∀ k, w.heap.size ≤ k → ¬ S k) : RStep w w' S S y g := ⟨Kept2.of_ext hE, fun _ _ => Iff.rfl, fun k hk => hf k (Nat.le_trans hE.size hk)⟩
theorem DiskIs.beside {w w' : World} {S S' : Nat → Prop} {d m y g : Nat} {q l : Int} {F : Files} (h : DiskIs w S d m q l F) (hs : RStep w w' S S' y g) (hy : S y) (hg : S g) (h1 : d ≠ y) (h2 : d ≠ g) (h3 : m ≠ y) (h4 : m ≠ g) : DiskIs w' S' d m q l F := by
 obtain ⟨hd, hm⟩ := h.lt
 have h' := h.kept hs.kept hy hg h1 h2 h3 h4
 obtain ⟨G, hG, hH⟩ := h.map
 obtain ⟨G', hG', hH'⟩ := h'.map
 refine ⟨h'.str, ⟨G, ?_, (hH.more hs.same).kept hs.kept ((hs.same y (by by_cases hy' : y < w.heap.size; exact hy'; exact absurd hy (h.fresh y (by omega)))).2 hy) ((hs.same g (by by_cases hg' : g < w.heap.size; exact hg'; exact absurd hg (h.fresh g (by omega)))).2 hg)⟩, h.ne, (hs.same d hd).2 h.own, (hs.same m hm).2 h.ownM, hs.fresh, h.few, h.lr⟩
 obtain ⟨es, clock, e1, e2⟩ := hG
 exact ⟨es, clock, by rw [hs.kept.block m hm h3 h4]; exact e1, e2⟩
/-! ### New, burn, May, at -/
set_option maxRecDepth 100000 in
theorem refDisk_at (q : Int) (w : World) (S : Nat → Prop) (hS : ∀ k, w.heap.size ≤ k → ¬ S k) :
  Calls Tryz.prog 11 #[.int .i64 q] w fun e w' => e = .returned (.pointer (some ⟨w.heap.size, 0, none⟩)) ∧ RefIs w' (fun k => S k ∨ k = w.heap.size) w.heap.size w.heap.size (max q 0) (-1) [] ∧ Ext w w' := by
 have hmax := run_max0 q (max q 0) rfl
 obtain ⟨x, hx⟩ : ∃ x, x = max q 0 := ⟨_, rfl⟩
 rw [← hx] at hmax ⊢
 clear hx
 have HS := hid hS; clear hS
 go_enter Tryz.func11, Tryz.ntmps11
 go_wp2
 go_ret
 have hb := heap_alloc_last w (.cells #[.int .i64 x, .int .i64 (-1), .slice none 0 0] 79)
 refine ⟨rfl, ⟨?_, ?_, ?_, ⟨.slice none 0 0, ?_, OwnK.nil _ _, .inl rfl⟩, .inr rfl, .inr rfl, ?_, ?_, by simp, .nil, (by intro p hp; cases hp), by omega⟩, (Below.refl _ _).alloc (Nat.le_refl _) _⟩
 ·rw [cell_of_row _ _ _ _ _ _ hb]; rfl
 ·rw [cell_of_row _ _ _ _ _ _ hb]; rfl
 ·intro k; unfold World.frozen?; dsimp only; rw [hb]; simp
 ·rw [cell_of_row _ _ _ _ _ _ hb]; rfl
 ·simp
 ·intro k hk; simp at hk
  rintro (h | h)
  ·exact HS.out k (by omega) h
  ·omega
theorem RefIs.relit {w : World} {S : Nat → Prop} {y g : Nat} {q l : Int} {F : Files} (h : RefIs w S y g q l F) (x : Int) (hx : -9223372036854775808 ≤ x ∧ x ≤ 9223372036854775807) : RefIs (w.setCell ⟨y, 1, none⟩ (.int .i64 x)) S y g q x F ∧ Kept2 y g w (w.setCell ⟨y, 1, none⟩ (.int .i64 x)) := by
 have hk : Kept2 y g w (w.setCell ⟨y, 1, none⟩ (.int .i64 x)) := ⟨rfl, rfl, rfl, by simp, fun k hk h1 _ => heap_setCell_other w ⟨y, 1, none⟩ k _ (fun e => h1 e)⟩
 obtain ⟨v, e1, ⟨cs, ho, hr⟩, e3⟩ := h.row
 refine ⟨⟨?_, ?_, ?_, ⟨v, ?_, ⟨cs, ?_, ?_⟩, e3⟩, h.own, h.ownG, by simpa using h.glt, fun k hk' => h.fresh k (by simpa using hk'), h.few, h.up, h.ok, hx⟩, hk⟩
 ·exact (World.cell?_setCell_other (w := w) (a := ⟨y, 1, none⟩) (b := ⟨y, 0, none⟩) (v := .int .i64 x) (h := by simp)).trans h.quota
 ·exact World.cell?_setCell_same (w := w) (a := ⟨y, 1, none⟩) (h := h.left) ..
 ·intro k; simp only [World.frozen?_setCell]; exact h.free k
 ·exact (World.cell?_setCell_other (w := w) (a := ⟨y, 1, none⟩) (b := ⟨y, 2, none⟩) (v := .int .i64 x) (h := by simp)).trans e1
 ·refine World.ownsRow.kept (row := some y) ho ⟨rfl, rfl, rfl, by simp, fun k _ hk => heap_setCell_other w ⟨y, 1, none⟩ k _ (fun e => hk (by rw [e]))⟩ ?_
  rcases e3 with e | ⟨e, hne⟩
  ·exact .inl e
  ·exact .inr (by rw [e]; simpa using hne)
 ·exact (hr.ext fun k hk' => heap_setCell_other w ⟨y, 1, none⟩ k _ (fun e => hk'.2 (by rw [show k = y from e]; exact h.own))).mono fun k hk' => ⟨by simpa using hk'.1, hk'.2⟩
end Go.Proofs.YtakebdeldndaaaaGreatDoor
/- The reference's disk: burn, May, at. -/
namespace Go.Proofs.YtakebdeldndaaaaGreatDoor
open Go Go.RowKit
set_option linter.unusedSimpArgs false
set_option linter.unusedVariables false
theorem burn_ref {w : World} {S : Nat → Prop} {y g : Nat} {q l : Int} {F : Files} (h : RefIs w S y g q l F) :
  Calls Tryz.prog 38 #[.pointer (some ⟨y, 0, none⟩)] w fun e w' => e = .returned (.bool (decide (l = 0))) ∧ RefIs w' S y g q (burnL l) F ∧ RStep w w' S S y g := by
 have H := hid h
 have c1 := h.left
 have c2 := h.free 1
 have hl := h.lr
 have Hfr := hid h.fresh
 have hfus : Hid (0 < l → RefIs (w.setCell ⟨y, 1, none⟩ (.int .i64 (l - 1))) S y g q (l - 1) F ∧ Kept2 y g w (w.setCell ⟨y, 1, none⟩ (.int .i64 (l - 1)))) := fun h0 => h.relit (l - 1) (by omega)
 clear h
 unfold burnL
 by_cases h0 : l = 0
 ·subst h0
  go_enter Tryz.func38, Tryz.ntmps38
  go_wp2
  go_ret
  exact ⟨rfl, H.out, RStep.of_ext (Below.refl _ _) Hfr.out⟩
 have hne' : (l == 0) = false := by rw [beq_eq_false_iff_ne]; exact h0
 by_cases hp : 0 < l
 ·have hw2 : IntKind.i64.wrap (l - 1) = l - 1 := by rw [IntKind.wrap_i64]; omega
  go_enter Tryz.func38, Tryz.ntmps38
  go_wp2
  go_ret
  exact ⟨rfl, (hfus.out hp).1, (hfus.out hp).2, fun _ _ => Iff.rfl, fun k hk => Hfr.out k (by simpa using hk)⟩
 ·go_enter Tryz.func38, Tryz.ntmps38
  go_wp2
  go_ret
  exact ⟨rfl, by first | exact H.out | (rw [if_neg (by omega)]; exact H.out), RStep.of_ext (Below.refl _ _) Hfr.out⟩
theorem letters_iff (c : UInt8) : letters.contains c = true ↔ (97 ≤ c.toNat ∧ c.toNat ≤ 122) ∨ (48 ≤ c.toNat ∧ c.toNat ≤ 57) ∨ c.toNat = 95 := by
 have := c.toNat_lt
 simp [letters, ← UInt8.toNat_inj]
 omega
theorem run_index_str (nm : List UInt8) (k : Nat) (hk : k < nm.length) (t : TypeId) (w : World) (ht : Tryz.prog.underlying t = some .string) : (Instr.index t (.string (str nm)) (.int .i64 (k : Int))).run Tryz.prog w = .ok (.int .u8 ((nm[k]'hk).toNat : Int)) w := by
 rw [run_index_string w t (str nm) .i64 (k : Int) ht, dif_pos ⟨by omega, by rw [str_size]; omega⟩]
 rfl
set_option maxRecDepth 100000 in
set_option maxHeartbeats 2000000 in
theorem refMay_at (nm : List UInt8) (w : World) (hn : nm.length ≤ 9223372036854775807) :
  Calls Tryz.prog 39 #[.string (str nm)] w fun e w' => e = .returned (.bool (mayB nm)) ∧ w = w' := by
 have hl : ∀ w, (Builtin.len_ #[9] 3 #[.string (str nm)]).run Tryz.prog w = .ok (.int .i64 (nm.length : Int)) w := fun w => by go_simp; rfl
 go_enter Tryz.func39, Tryz.ntmps39
 go_wp2_with fail
 go_loop [3] (fun i => ∃ k : Nat, k ≤ nm.length ∧ i = .int .i64 (k : Int) ∧ Hid (∀ x ∈ nm.take k, letters.contains x = true)) (fun i => nm.length - (intOf i).toNat)
 case atStart => exact ⟨0, by omega, rfl, fun x hx => by simp at hx⟩
 case round =>
  obtain ⟨k, hk, rfl, HA⟩ := hrel
  by_cases hlt : k < nm.length
  ·have hx := fun w => run_index_str nm k hlt 9 w Tryz.underlying9
   have Hts := hid (show nm.take (k + 1) = nm.take k ++ [nm[k]] by rw [List.take_succ_eq_append_getElem hlt])
   have hmem := hid (show nm[k] ∈ nm from List.getElem_mem _)
   have hiff := hid (letters_iff nm[k])
   have hclt := nm[k].toNat_lt
   generalize nm[k] = c at hx Hts hmem hiff hclt
   by_cases h1 : 97 ≤ c.toNat ∧ c.toNat ≤ 122
   ·have hok := hid (hiff.out.2 (.inl h1))
    have g1 : (97 : Int) ≤ (c.toNat : Int) := by omega
    have g2 : (c.toNat : Int) ≤ 122 := by omega
    have hlt' : (k : Int) < (nm.length : Int) := by omega
    clear h1
    go_wp2
    go_round
    case rel => exact ⟨k + 1, by omega, by go_num, fun x hx => by rw [Hts.out] at hx; rcases List.mem_append.1 hx with h | h; exact HA.out x h; rw [List.mem_singleton.1 h]; exact hok.out⟩
    case measure => simp [intOf]; omega
   by_cases h2 : 48 ≤ c.toNat ∧ c.toNat ≤ 57
   ·have hok := hid (hiff.out.2 (.inr (.inl h2)))
    have g0 : ¬ ((97 : Int) ≤ (c.toNat : Int)) := by omega
    have g1 : (48 : Int) ≤ (c.toNat : Int) := by omega
    have g2 : (c.toNat : Int) ≤ 57 := by omega
    have hlt' : (k : Int) < (nm.length : Int) := by omega
    clear h1 h2
    go_wp2
    go_round
    case rel => exact ⟨k + 1, by omega, by go_num, fun x hx => by rw [Hts.out] at hx; rcases List.mem_append.1 hx with h | h; exact HA.out x h; rw [List.mem_singleton.1 h]; exact hok.out⟩
    case measure => simp [intOf]; omega
   by_cases h3 : c.toNat = 95
   ·have hok := hid (hiff.out.2 (.inr (.inr h3)))
    have hlt' : (k : Int) < (nm.length : Int) := by omega
    rw [h3] at hx
    clear h1 h2 h3 hclt
    go_wp2
    go_round
    case rel => exact ⟨k + 1, by omega, by go_num, fun x hx => by rw [Hts.out] at hx; rcases List.mem_append.1 hx with h | h; exact HA.out x h; rw [List.mem_singleton.1 h]; exact hok.out⟩
    case measure => simp [intOf]; omega
   ·have hno : mayB nm = false := by
     unfold mayB
     have : nm.all (letters.contains ·) = false := by
      rw [List.all_eq_false]
      exact ⟨c, hmem.out, fun h => by have := hiff.out.1 h; omega⟩
     rw [this, Bool.and_false]
    have Hno := hid hno
    have hlt' : (k : Int) < (nm.length : Int) := by omega
    have h95 : ((c.toNat : Int) == 95) = false := by rw [beq_eq_false_iff_ne]; omega
    obtain ⟨z, hz⟩ : ∃ z, z = (c.toNat : Int) := ⟨_, rfl⟩
    have hcase : (¬ (97 ≤ z) ∧ ¬ (48 ≤ z)) ∨ (¬ (97 ≤ z) ∧ 48 ≤ z ∧ ¬ (z ≤ 57)) ∨ (97 ≤ z ∧ ¬ (z ≤ 122) ∧ 48 ≤ z ∧ ¬ (z ≤ 57)) := by omega
    rw [← hz] at hx h95
    clear h1 h2 h3 hno hclt hz
    rcases hcase with ⟨g1, g2⟩ | ⟨g1, g2, g3⟩ | ⟨g1, g2, g3, g4⟩
    all_goals
     go_wp2
     go_ret
     exact ⟨by rw [Hno.out]; rfl, rfl⟩
  ·have hkn : k = nm.length := by omega
   subst hkn
   have hall : nm.all (letters.contains ·) = true := by
    rw [List.all_eq_true]
    intro x hx
    exact HA.out x (by rw [List.take_of_length_le (Nat.le_refl _)]; exact hx)
   have hm : mayB nm = (decide (0 < nm.length) && decide (nm.length ≤ 20)) := by unfold mayB; rw [hall, Bool.and_true]
   have Hm := hid hm
   clear hm hall
   by_cases h1 : 1 ≤ nm.length
   ·by_cases h20 : nm.length ≤ 20
    ·have g1 : (1 : Int) ≤ (nm.length : Int) := by omega
     have g2 : (nm.length : Int) ≤ 20 := by omega
     have Hm2 : Hid (mayB nm = true) := hid (Hm.out.trans (by rw [decide_eq_true (show 0 < nm.length by omega), decide_eq_true h20]; rfl))
     clear h1 h20
     go_wp2
     go_ret
     exact ⟨by rw [Hm2.out]; rfl, rfl⟩
    ·have g1 : (1 : Int) ≤ (nm.length : Int) := by omega
     have g2 : ¬ ((nm.length : Int) ≤ 20) := by omega
     have Hm2 := hid (Hm.out.trans (by rw [decide_eq_false h20, Bool.and_false]))
     clear h1 h20
     go_wp2
     go_ret
     exact ⟨by rw [Hm2.out]; rfl, rfl⟩
   ·have g1 : ¬ ((1 : Int) ≤ (nm.length : Int)) := by omega
    have Hm2 := hid (Hm.out.trans (by rw [decide_eq_false (show ¬ (0 < nm.length) by omega), Bool.false_and]))
    clear h1
    go_wp2
    go_ret
    exact ⟨by rw [Hm2.out]; rfl, rfl⟩
def idxF (F : Files) (nm : List UInt8) : Option Nat := F.findIdx? (·.1 == nm)
def idxI (F : Files) (nm : List UInt8) : Int := match idxF F nm with
 | some k => (k : Int)
 | none => -1
theorem idxI_found {F : Files} {nm : List UInt8} {k : Nat} (hk : k < F.length) (he : F[k].1 = nm) (hno : ∀ j (hj : j < k), (F[j]'(by omega)).1 ≠ nm) : idxI F nm = (k : Int) := by
 unfold idxI idxF
 have : F.findIdx? (·.1 == nm) = some k := by
  rw [List.findIdx?_eq_some_iff_getElem]
  exact ⟨hk, by simpa using he, fun j hj => by simpa using hno j hj⟩
 rw [this]
theorem idxI_none {F : Files} {nm : List UInt8} (hno : ∀ j (hj : j < F.length), F[j].1 ≠ nm) : idxI F nm = -1 := by
 unfold idxI idxF
 have : F.findIdx? (·.1 == nm) = none := by
  rw [List.findIdx?_eq_none_iff]
  intro p hp
  obtain ⟨j, hj, rfl⟩ := List.getElem_of_mem hp
  simpa using hno j hj
 rw [this]
set_option maxRecDepth 100000 in
set_option maxHeartbeats 2000000 in
theorem at_ref {w : World} {S : Nat → Prop} {y g : Nat} {q l : Int} {F : Files} (h : RefIs w S y g q l F) (nm : List UInt8) :
  Calls Tryz.prog 40 #[.pointer (some ⟨y, 0, none⟩), .string (str nm)] w fun e w' => e = .returned (.int .i64 (idxI F nm)) ∧ w = w' := by
 obtain ⟨v, c2, hO, -⟩ := h.row
 obtain ⟨A, c, cs, rfl, hc, hcm, -, -⟩ := hO.read
 have hfew := h.few
 have HO := hid hO
 have hst := str_toList
 obtain ⟨N, hN⟩ : ∃ N, N = F.length := ⟨_, rfl⟩
 rw [← hN] at c2 hfew HO hc
 have HN := hid hN
 clear h hO hN
 go_enter Tryz.func40, Tryz.ntmps40
 go_wp2_with fail
 go_loop [5] (fun i => ∃ k : Nat, k ≤ N ∧ i = .int .i64 (k : Int) ∧ Hid (∀ j (hj : j < k) (hj' : j < F.length), F[j].1 ≠ nm)) (fun i => N - (intOf i).toNat)
 case atStart => exact ⟨0, by omega, rfl, fun j hj => by omega⟩
 case round =>
  obtain ⟨k, hk, rfl, HA⟩ := hrel
  by_cases hlt : k < N
  ·have hkF : k < F.length := by have := HN.out; omega
   obtain ⟨g0, c0, e0, -, -, -, -, -, hcell⟩ := HO.out.at_ (by omega)
   simp only [Value.slice.injEq] at e0
   obtain ⟨rfl, -, rfl⟩ := e0
   obtain ⟨d, hd, hcc⟩ := hcell k hkF
   obtain ⟨A1, c1, rfl, -⟩ := rfile_rel hd
   have f0 := hcc 0 _ rfl
   have hlt' : (k : Int) < (N : Int) := by omega
   have HFk := hid (show F[k].1 = F[k].1 from rfl)
   by_cases hnm : F[k].1 = nm
   ·have hres := hid (idxI_found hkF hnm fun j hj => HA.out j hj (by omega))
    have heq : (F[k].1 == nm) = true := beq_iff_eq.2 hnm
    generalize F[k].1 = a at f0 heq
    have f0' : w.cell? ⟨g0, k * 3, none⟩ = some (.string (str a)) := f0
    clear hnm HFk f0 hcc hcell hd
    go_wp2
    go_ret
    exact ⟨by rw [hres.out]; rfl, rfl⟩
   ·have Hnm := hid hnm
    have heq : (F[k].1 == nm) = false := beq_eq_false_iff_ne.2 hnm
    generalize hFk : F[k].1 = a at f0 heq
    have HFk := hid hFk
    have f0' : w.cell? ⟨g0, k * 3, none⟩ = some (.string (str a)) := f0
    clear hnm f0 hcc hcell hd hFk
    go_wp2
    go_round
    case rel => exact ⟨k + 1, by omega, by go_num, fun j hj hj' => by rcases Nat.lt_or_ge j k with h | h; exact HA.out j h hj'; (obtain rfl : j = k := by omega); exact Hnm.out⟩
    case measure => simp [intOf]; omega
  ·obtain rfl : k = N := by omega
   have hres := hid (idxI_none fun j hj => HA.out j (by have := HN.out; omega) hj)
   go_wp2
   go_ret
   exact ⟨by rw [hres.out]; rfl, rfl⟩
end Go.Proofs.YtakebdeldndaaaaGreatDoor
/- The reference's disk: put. -/
namespace Go.Proofs.YtakebdeldndaaaaGreatDoor
open Go Go.RowKit
set_option linter.unusedSimpArgs false
set_option linter.unusedVariables false
theorem bytesLess_eq : ∀ (a b : List UInt8), Op.bytesLess a b = bytesBefore a b
 | [], [] => rfl
 | [], _ :: _ => rfl
 | _ :: _, [] => rfl
 | x :: a, y :: b => by unfold Op.bytesLess bytesBefore; rw [bytesLess_eq a b]
def putGo (p : List UInt8 × File) : Bool → Files → Files
 | true, [] => []
 | false, [] => [p]
 | true, x :: r => (if x.1 = p.1 then [] else [x]) ++ putGo p true r
 | false, x :: r => if bytesBefore p.1 x.1 = true ∨ p.1 = x.1 then p :: ((if x.1 = p.1 then [] else [x]) ++ putGo p true r) else (if x.1 = p.1 then [] else [x]) ++ putGo p false r
theorem putGo_true (p : List UInt8 × File) : ∀ F : Files, putGo p true F = delF p.1 F
 | [] => rfl
 | x :: r => by
  unfold putGo delF
  rw [putGo_true p r, List.filter_cons]
  by_cases h : x.1 = p.1
  ·simp [h, delF]
  ·simp [h, delF]
theorem putGo_eq (p : List UInt8 × File) : ∀ F : Files, Up F → putGo p false F = putF p.1 p.2 F
 | [], _ => rfl
 | x :: r, hu => by
  obtain ⟨h1, h2⟩ := List.pairwise_cons.1 hu
  have ih := putGo_eq p r h2
  unfold putGo
  by_cases hb : bytesBefore p.1 x.1 = true ∨ p.1 = x.1
  ·rw [if_pos hb, putGo_true]
   by_cases he : x.1 = p.1
   ·rw [if_pos he, List.nil_append]
    unfold putF
    have hn : ∀ q ∈ r, q.1 ≠ p.1 := fun q hq => by rw [← he]; exact (bb_ne (h1 q hq)).symm
    have e : delF p.1 (x :: r) = r := by
     unfold delF
     rw [List.filter_cons, if_neg (by simp [he]), DelL_none p.1 r hn]
    rw [e]
    have e2 : delF p.1 r = r := DelL_none p.1 r hn
    rw [e2]
    cases r with
    | nil => rfl
    | cons z r' =>
     unfold insF
     rw [if_pos (show bytesBefore (p.1, p.2).1 z.1 = true by show bytesBefore p.1 z.1 = true; rw [← he]; exact h1 z (by simp))]
   ·rw [if_neg he]
    have hlt : bytesBefore p.1 x.1 = true := by
     rcases hb with h | h
     ·exact h
     ·exact absurd h.symm he
    unfold putF
    have e : delF p.1 (x :: r) = x :: delF p.1 r := by
     unfold delF
     rw [List.filter_cons, if_pos (by simp [he])]
    rw [e]
    unfold insF
    rw [if_pos (show bytesBefore (p.1, p.2).1 x.1 = true from hlt)]; rfl
  ·rw [if_neg hb]
   have he : ¬ x.1 = p.1 := fun h => hb (.inr h.symm)
   rw [if_neg he, ih]
   unfold putF
   have e : delF p.1 (x :: r) = x :: delF p.1 r := by
    unfold delF
    rw [List.filter_cons, if_pos (by simp [he])]
   rw [e]
   conv => rhs; unfold insF
   rw [if_neg (show ¬ bytesBefore (p.1, p.2).1 x.1 = true from fun h => hb (.inl h))]; rfl
theorem bb_total : ∀ (a b : List UInt8), a ≠ b → bytesBefore a b = true ∨ bytesBefore b a = true
 | [], [], h => absurd rfl h
 | [], _ :: _, _ => .inl rfl
 | _ :: _, [], _ => .inr rfl
 | x :: a, y :: b, h => by
  unfold bytesBefore
  simp only [Bool.or_eq_true, decide_eq_true_eq, Bool.and_eq_true, beq_iff_eq]
  by_cases e : x = y
  ·subst e
   rcases bb_total a b (fun e => h (by rw [e])) with h' | h'
   ·exact .inl (.inr ⟨rfl, h'⟩)
   ·exact .inr (.inr ⟨rfl, h'⟩)
  ·have : x.toNat ≠ y.toNat := fun e' => e (UInt8.toNat_inj.1 e')
   rcases Nat.lt_or_gt_of_ne this with h' | h'
   ·exact .inl (.inl (UInt8.lt_iff_toNat_lt.2 h'))
   ·exact .inr (.inl (UInt8.lt_iff_toNat_lt.2 h'))
theorem mem_insF {x q : List UInt8 × File} : ∀ {F : Files}, q ∈ insF x F → q = x ∨ q ∈ F
 | [], h => by
  unfold insF at h
  exact .inl (List.mem_singleton.1 h)
 | y :: r, h => by
  unfold insF at h
  split at h
  ·rcases List.mem_cons.1 h with h | h
   ·exact .inl h
   ·exact .inr h
  ·rcases List.mem_cons.1 h with h | h
   ·exact .inr (by simp [h])
   ·rcases mem_insF h with h | h
    ·exact .inl h
    ·exact .inr (by simp [h])
theorem up_insF {nm : List UInt8} {f : File} : ∀ {F : Files}, Up F → (∀ p ∈ F, p.1 ≠ nm) → Up (insF (nm, f) F)
 | [], _, _ => by simp [insF, Up]
 | y :: r, hu, hn => by
  obtain ⟨h1, h2⟩ := List.pairwise_cons.1 hu
  unfold insF
  split
  ·rename_i hb
   refine List.pairwise_cons.2 ⟨fun q hq => ?_, hu⟩
   rcases List.mem_cons.1 hq with rfl | hq
   ·exact hb
   ·exact bb_trans hb (h1 q hq)
  ·rename_i hb
   refine List.pairwise_cons.2 ⟨fun q hq => ?_, up_insF h2 fun p hp => hn p (by simp [hp])⟩
   rcases mem_insF hq with rfl | hq
   ·rcases bb_total nm y.1 (fun e => hn y (by simp) e.symm) with h | h
    ·exact absurd h hb
    ·exact h
   ·exact h1 q hq
theorem up_delF {F : Files} (hu : Up F) (nm : List UInt8) : Up (delF nm F) := List.Pairwise.filter _ hu
theorem up_putF {F : Files} (hu : Up F) (nm : List UInt8) (f : File) : Up (putF nm f F) :=
 up_insF (up_delF hu nm) fun p hp => by unfold delF at hp; have := (List.mem_filter.1 hp).2; simpa using this
theorem ok_delF {F : Files} (h : OkF F) (nm : List UInt8) : OkF (delF nm F) := fun p hp => h p (List.mem_filter.1 hp).1
theorem ok_putF {F : Files} (h : OkF F) (nm : List UInt8) {f : File} (hf : f.b.length ≤ 65536 ∧ f.safe ≤ f.b.length) : OkF (putF nm f F) := fun p hp => by
 rcases mem_insF hp with rfl | hp
 ·exact hf
 ·exact ok_delF h nm p hp
theorem finfo : SlInfo Tryz.prog 77 88 (.agg #[.string ⟨#[]⟩, .slice none 0 0, .int .i64 0]) RFile.size 48 := ⟨Tryz.underlying77, by kernel_rfl, rfl, by decide⟩
theorem ref_stored {w W : World} {S : Nat → Prop} {y g : Nat} {q l : Int} {F : Files} {p : List UInt8 × File} {v : Value} {B : Nat} (h : RefIs w S y g q l F) (hok : p.2.b.length ≤ 65536 ∧ p.2.safe ≤ p.2.b.length) (hfew : F.length < 200 ∨ ∃ f0, atF F p.1 = some f0)
  (hE : Ext w W) (hO : OwnK RFile 88 (Imm w S) W B v (putF p.1 p.2 F)) (hB : w.heap.size < B) :
  ∃ S' g', RefIs (W.setCell ⟨y, 2, none⟩ v) S' y g' q l (putF p.1 p.2 F) ∧ RStep w (W.setCell ⟨y, 2, none⟩ v) S S' y g ∧ (g' = g ∨ w.heap.size ≤ g') := by
 have hy := h.lt
 have hpos : 0 < (putF p.1 p.2 F).length := by unfold putF; rw [length_insF]; omega
 obtain ⟨g', c, hv, hob, hg1, hg2, -⟩ := hO.at_ hpos
 have hb := hE.block y hy
 obtain ⟨v0, e1, -, -⟩ := h.row
 have hgy : g' ≠ y := by omega
 have hsz := hE.size
 have hS' : ∀ k, (W.setCell ⟨y, 2, none⟩ v).heap.size ≤ k → ¬ (S k ∨ k = g') := fun k hk => by
  have hk' : W.heap.size ≤ k := by simpa using hk
  rintro (h' | h')
  ·exact h.fresh k (by omega) h'
  ·omega
 refine ⟨fun k => S k ∨ k = g', g', ⟨?_, ?_, ?_, ⟨v, ?_, ?_, .inr ⟨hob, hgy⟩⟩, .inl h.own, .inr rfl, by simpa using hg2, hS', ?_, up_putF h.up _ _, ok_putF h.ok _ hok, h.lr⟩, ⟨⟨hE.os, hE.tape, hE.output, by simpa using hsz, fun k hk h1 _ => (heap_setCell_other W ⟨y, 2, none⟩ k v h1).trans (hE.block k hk)⟩, fun k hk => ⟨fun h' => by rcases h' with h' | h'; exact h'; omega, .inl⟩, hS'⟩, .inr (by omega)⟩
 ·exact (World.cell?_setCell_other (w := W) (a := ⟨y, 2, none⟩) (b := ⟨y, 0, none⟩) (v := v) (h := by simp)).trans ((World.cell?_of_block (a := ⟨y, 0, none⟩) hb).trans h.quota)
 ·exact (World.cell?_setCell_other (w := W) (a := ⟨y, 2, none⟩) (b := ⟨y, 1, none⟩) (v := v) (h := by simp)).trans ((World.cell?_of_block (a := ⟨y, 1, none⟩) hb).trans h.left)
 ·intro k; simp only [World.frozen?_setCell]; exact (World.frozen?_of_block (a := ⟨y, k, none⟩) hb).trans (h.free k)
 ·exact World.cell?_setCell_same (w := W) (a := ⟨y, 2, none⟩) (h := (World.cell?_of_block (a := ⟨y, 2, none⟩) hb).trans e1) ..
 ·refine ((OwnK.kept (w' := W.setCell ⟨y, 2, none⟩ v) hO (row := some y) ⟨rfl, rfl, rfl, by simp, fun k _ hk => heap_setCell_other W ⟨y, 2, none⟩ k v (fun e => hk (by rw [e]))⟩ (.inr (by rw [hob]; simpa using hgy)) fun k hk => ⟨by have := hk.1; omega, fun e => hk.2 (by simp only [Option.some.injEq] at e; rw [← e]; exact h.own)⟩).mono fun k hk => ⟨by have := hk.1; simp; omega, ?_⟩).base' (Nat.zero_le _)
  rintro (h' | h')
  ·exact hk.2 h'
  ·have := hk.1; omega
 ·rcases hfew with h' | ⟨f0, hf0⟩
  ·have := length_putF_le p.1 p.2 F; omega
  ·rw [length_putF_there h.up hf0]; exact h.few
theorem box_row {α : Type} {R : Rep α} {w : World} {K : Nat → Prop} {x : α} {d : List Value} (h : R.rel w K x d) (hK : ∀ k, K k → k < w.heap.size) (t : TypeId) : ∃ cs, Rows R (w.alloc (.cells d.toArray t)) K [x] cs ∧ RV (w.alloc (.cells d.toArray t)) (some ⟨w.heap.size, 0, none⟩) cs := by
 have hE : Ext w (w.alloc (.cells d.toArray t)) := (Below.refl _ _).alloc (Nat.le_refl _) _
 refine ⟨d, Rows.single (R.ext h fun k hk => hE.block k (hK k hk)), .inr ⟨w.heap.size, 0, rfl, fun j v hv => ?_⟩⟩
 rw [cell_of_row _ _ _ _ _ _ (heap_alloc_last w _), Nat.zero_add]
 simpa using hv
set_option maxRecDepth 100000 in
set_option maxHeartbeats 4000000 in
theorem put_ref {w : World} {S : Nat → Prop} {y g : Nat} {q l : Int} {F : Files} (h : RefIs w S y g q l F) (p : List UInt8 × File) (A : Option Addr) (c : Nat) (hrel : RFile.rel w (Imm w S) p [strV p.1, .slice A p.2.b.length c, .int .i64 (p.2.safe : Int)])
  (hok : p.2.b.length ≤ 65536 ∧ p.2.safe ≤ p.2.b.length) (hfew : F.length < 200 ∨ ∃ f0, atF F p.1 = some f0) :
  Calls Tryz.prog 42 #[.pointer (some ⟨y, 0, none⟩), .agg #[.string (str p.1), .slice A p.2.b.length c, .int .i64 (p.2.safe : Int)]] w fun e w' => e = .returned (.tuple #[]) ∧ ∃ S' g', RefIs w' S' y g' q l (putF p.1 p.2 F) ∧ RStep w w' S S' y g ∧ (g' = g ∨ w.heap.size ≤ g') := by
 have H := hid h
 have hfew200 := h.few
 obtain ⟨v, c2, hO, -⟩ := h.row
 have hylt := h.lt
 obtain ⟨n0, hn0⟩ : ∃ n0, n0 = p.2.b.length := ⟨_, rfl⟩
 rw [← hn0] at hrel ⊢
 obtain ⟨nm, hnm⟩ : ∃ nm, nm = p.1 := ⟨_, rfl⟩
 have Hnm := hid hnm
 rw [← hnm] at hrel ⊢
 have Hrel := hid hrel
 obtain ⟨A0, c0, cs, rfl, hc0, hcm0, -, -⟩ := hO.read
 obtain ⟨N, hN⟩ : ∃ N, N = F.length := ⟨_, rfl⟩
 rw [← hN] at c2 hfew200 hc0
 have HO : Hid (OwnK RFile 88 (Imm w S) w 0 (.slice A0 N c0) F) := by rw [hN]; exact hO
 have HN := hid hN
 have Hfew := hid hfew
 have Hok := hid hok
 have hst := str_toList
 have hbl := bytesLess_eq
 have E1 := hid (show Ext w (w.alloc (.cells #[.string (str nm), .slice A n0 c, .int .i64 (p.2.safe : Int)] 88)) from (Below.refl _ _).alloc (Nat.le_refl _) _)
 have hbox := heap_alloc_last w (.cells #[.string (str nm), .slice A n0 c, .int .i64 (p.2.safe : Int)] 88)
 have Hbox := hid hbox
 clear h hO hrel hn0 hnm hN hbox hfew hok
 go_enter Tryz.func42, Tryz.ntmps42
 go_wp2_with fail
 have hB1 : (w.alloc (.cells #[.string (str nm), .slice A n0 c, .int .i64 (p.2.safe : Int)] 88)).heap.size = w.heap.size + 1 := by simp
 generalize w.alloc (.cells #[.string (str nm), .slice A n0 c, .int .i64 (p.2.safe : Int)] 88) = W1 at E1 Hbox hB1 ⊢
 obtain ⟨B, hB⟩ : ∃ B, B = w.heap.size + 1 := ⟨_, rfl⟩
 have hBlt : w.heap.size < B := by omega
 rw [← hB] at hB1 ⊢
 have HB1 := hid hB1
 have hyB : y < B := by omega
 have HC : Hid (∀ wr : World, Below B W1 wr → wr.cell? ⟨y, 2, none⟩ = some (.slice A0 N c0) ∧ wr.cell? ⟨w.heap.size, 0, none⟩ = some (.string (str nm)) ∧ wr.cell? ⟨w.heap.size, 1, none⟩ = some (.slice A n0 c) ∧ wr.cell? ⟨w.heap.size, 2, none⟩ = some (.int .i64 (p.2.safe : Int))) := by
  intro wr hb
  have hbk := (hb.block w.heap.size hBlt).trans Hbox.out
  refine ⟨(hb.cell (p := ⟨y, 2, none⟩) hyB).trans (cell_below E1.out c2), ?_, ?_, ?_⟩ <;> rw [cell_of_row _ _ _ _ _ _ hbk] <;> rfl
 have HK : Hid (∀ k, Imm w S k → k < B) := fun k hk => by have := hk.1; omega
 have Hb0 : Hid (B ≤ W1.heap.size) := by rw [hB1]; exact Nat.le_refl _
 have hNle : N ≤ 200 := hfew200
 have HWsz := hid hB
 have HS0 : Hid (∀ wr : World, Below B W1 wr → ∀ k, Imm w S k → wr.heap[k]? = w.heap[k]?) := fun wr hb k hk => (hb.block k (by have := hk.1; omega)).trans (E1.out.block k hk.1)
 clear c2 hB hB1
 go_loopw [4, 5, 6] (fun v dn i wr => ∃ (k : Nat) (done : Bool) (acc : Files), k ≤ N ∧ acc.length ≤ k + done.toNat ∧ i = .int .i64 (k : Int) ∧ dn = .bool done ∧ Hid (OwnK RFile 88 (Imm w S) wr B v acc) ∧ Hid (Below B W1 wr) ∧ Hid (acc ++ putGo p done (F.drop k) = putGo p false F)) (fun _ _ i _ => N - (intOf i).toNat)
 case atStart =>
  refine ⟨0, false, [], by omega, by simp, rfl, rfl, ?_, ?_, rfl⟩
  ·have := OwnK.empty (R := RFile) (e := 88) (K := Imm w S) W1 B Hb0.out
   rw [HB1.out] at this; exact this
  ·exact (Below.refl _ _).alloc Hb0.out _
 case round =>
  obtain ⟨k, done, acc, hk, hacc, rfl, rfl, HA, HB, HG⟩ := hrel
  have hbl2 := HB.out.size
  rw [HB1.out] at hbl2
  by_cases hlt : k < N
  ·have hkF : k < F.length := by have := HN.out; omega
   obtain ⟨g0, c1, e0, -, -, hg0, -, -, hcell⟩ := HO.out.at_ (by omega)
   simp only [Value.slice.injEq] at e0
   obtain ⟨rfl, -, rfl⟩ := e0
   obtain ⟨d, hd, hcc⟩ := hcell k hkF
   have Hd := hid hd
   obtain ⟨A1, c1, rfl, -⟩ := rfile_rel hd
   have hdrop := hid (List.drop_eq_getElem_cons hkF)
   generalize F[k] = x at hd Hd hcc hdrop
   obtain ⟨a, ha⟩ : ∃ a, a = x.1 := ⟨_, rfl⟩
   obtain ⟨n1, hn1⟩ : ∃ n1, n1 = x.2.b.length := ⟨_, rfl⟩
   rw [← ha, ← hn1] at hcc Hd
   have Ha := hid ha
   have HX : Hid (∀ wr : World, Below B W1 wr → wr.cell? ⟨g0, k * 3, none⟩ = some (.string (str a)) ∧ wr.cell? ⟨g0, k * 3 + 1, none⟩ = some (.slice A1 n1 c1) ∧ wr.cell? ⟨g0, k * 3 + 2, none⟩ = some (.int .i64 (x.2.safe : Int))) := by
    intro wr hb
    have hgB : g0 < B := by have := hg0; omega
    refine ⟨(hb.cell (p := ⟨g0, k * 3, none⟩) hgB).trans (cell_below E1.out (hcc 0 _ rfl)), (hb.cell (p := ⟨g0, k * 3 + 1, none⟩) hgB).trans (cell_below E1.out (hcc 1 _ rfl)), (hb.cell (p := ⟨g0, k * 3 + 2, none⟩) hgB).trans (cell_below E1.out (hcc 2 _ rfl))⟩
   have hlt' : (k : Int) < (N : Int) := by omega
   clear hd hcc hcell ha hn1 hg0
   rw [hdrop.out] at HG
   obtain ⟨c2, b0, b1, b2⟩ := HC.out _ HB.out
   have hacc2 : acc.length ≤ 201 := by have := Bool.toNat_le done; omega
   cases done
   ·by_cases heq : a = nm
    ·obtain rfl := heq.symm
     have hq1 : (nm == nm) = true := beq_self_eq_true nm
     have hb := bb_irrefl nm
     have HG2 := hid (show (acc ++ [p]) ++ putGo p true (F.drop (k + 1)) = putGo p false F by
      rw [← HG.out]
      conv => rhs; unfold putGo
      rw [if_pos (.inr (by rw [← Ha.out, ← Hnm.out])), if_pos (by rw [← Ha.out, ← Hnm.out])]
      simp)
     go_wp2_with fail
     apply wp_drawn [isV _, isV _, isV _, isV _, isV _, isV _, isV _, isV _, isV _, isV _, isV _, isV _, isV _, isV _, isV _] (by kernel_rfl)
     ·kernel_rfl
     ·refine ⟨?rcs0, ?rcs1, ?rcs2, ?rcs3, ?rcs4, ?rcs5, ?rcs6, ?rcs7, ?rcs8, ?rcs9, ?rcs10, ?rcs11, ?rcs12, ?rcs13, ?rcs14, trivial⟩
      case rcs0 | rcs1 | rcs2 =>
       intro v W hE hd; simp only [Region.wanted, ↓reduceIte]; (try simp [deps, waitsOn, Region.binds, knowing, isV, ownsV, anyV] at hd); simp only [putAll, List.take_succ_cons, List.take_zero, List.drop_succ_cons, List.drop_zero, Act.put, List.setIfInBounds_toArray, List.set_cons_zero, List.set_cons_succ, Nat.zero_add, Nat.reduceAdd]; go_simp; exact ⟨Below.refl _ _, rfl⟩
      case rcs3 =>
       intro v W hE hd; (try simp [deps, waitsOn, Region.binds, knowing, isV, ownsV, anyV] at hd); simp only [putAll, List.take_succ_cons, List.take_zero, List.drop_succ_cons, List.drop_zero, Act.put, List.setIfInBounds_toArray, List.set_cons_zero, List.set_cons_succ, Nat.zero_add, Nat.reduceAdd]; rw [if_pos (by simp [Region.wanted, yielded, hd])]; go_simp; exact ⟨Below.refl _ _, rfl⟩
      case rcs4 =>
       intro v W hE hd; (try simp [deps, waitsOn, Region.binds, knowing, isV, ownsV, anyV] at hd); simp only [putAll, List.take_succ_cons, List.take_zero, List.drop_succ_cons, List.drop_zero, Act.put, List.setIfInBounds_toArray, List.set_cons_zero, List.set_cons_succ, Nat.zero_add, Nat.reduceAdd]; rw [if_pos (by simp [Region.wanted, yielded, hd])]
       have e1 := cell_below hE b0
       go_simp
       exact ⟨Below.refl _ _, rfl⟩
      case rcs5 | rcs6 | rcs7 =>
       intro v W hE hd; (try simp [deps, waitsOn, Region.binds, knowing, isV, ownsV, anyV] at hd); simp only [putAll, List.take_succ_cons, List.take_zero, List.drop_succ_cons, List.drop_zero, Act.put, List.setIfInBounds_toArray, List.set_cons_zero, List.set_cons_succ, Nat.zero_add, Nat.reduceAdd]; rw [if_pos (by simp [Region.wanted, yielded, hd])]; go_simp; exact ⟨Below.refl _ _, rfl⟩
      case rcs8 =>
       intro v W hE hd; (try simp [deps, waitsOn, Region.binds, knowing, isV, ownsV, anyV] at hd); simp only [putAll, List.take_succ_cons, List.take_zero, List.drop_succ_cons, List.drop_zero, Act.put, List.setIfInBounds_toArray, List.set_cons_zero, List.set_cons_succ, Nat.zero_add, Nat.reduceAdd]; rw [if_pos (by simp [Region.wanted, yielded, hd])]
       have e1 := cell_below hE c2
       go_simp
       exact ⟨Below.refl _ _, rfl⟩
      case rcs9 | rcs10 | rcs11 =>
       intro v W hE hd; (try simp [deps, waitsOn, Region.binds, knowing, isV, ownsV, anyV] at hd); simp only [putAll, List.take_succ_cons, List.take_zero, List.drop_succ_cons, List.drop_zero, Act.put, List.setIfInBounds_toArray, List.set_cons_zero, List.set_cons_succ, Nat.zero_add, Nat.reduceAdd]; rw [if_pos (by simp [Region.wanted, yielded, hd])]; go_simp; exact ⟨Below.refl _ _, rfl⟩
      case rcs12 =>
       intro v W hE hd; (try simp [deps, waitsOn, Region.binds, knowing, isV, ownsV, anyV] at hd); simp only [putAll, List.take_succ_cons, List.take_zero, List.drop_succ_cons, List.drop_zero, Act.put, List.setIfInBounds_toArray, List.set_cons_zero, List.set_cons_succ, Nat.zero_add, Nat.reduceAdd]; rw [if_pos (by simp [Region.wanted, yielded, hd])]
       have e1 := cell_below hE (HX.out _ HB.out).1
       go_simp
       exact ⟨Below.refl _ _, rfl⟩
      case rcs13 =>
       intro v W hE hd; (try simp [deps, waitsOn, Region.binds, knowing, isV, ownsV, anyV] at hd); simp only [putAll, List.take_succ_cons, List.take_zero, List.drop_succ_cons, List.drop_zero, Act.put, List.setIfInBounds_toArray, List.set_cons_zero, List.set_cons_succ, Nat.zero_add, Nat.reduceAdd]; rw [if_pos (by simp [Region.wanted, yielded, hd])]; go_simp; exact ⟨Below.refl _ _, rfl⟩
      case rcs14 =>
       intro v W hE hd; simp only [Region.wanted, ↓reduceIte]; (try simp [deps, waitsOn, Region.binds, knowing, isV, ownsV, anyV] at hd); simp only [putAll, List.take_succ_cons, List.take_zero, List.drop_succ_cons, List.drop_zero, Act.put, List.setIfInBounds_toArray, List.set_cons_zero, List.set_cons_succ, Nat.zero_add, Nat.reduceAdd]; go_simp; exact ⟨Below.refl _ _, rfl⟩
     ·rintro v W hE ⟨-, -, -, -, -, -, -, -, -, -, -, -, -, -, e14, -⟩
      have e14 := (show v 14 = _ from e14)
      simp only [putAll, List.take_succ_cons, List.take_zero, List.drop_succ_cons, List.drop_zero, Act.put, List.setIfInBounds_toArray, List.set_cons_zero, List.set_cons_succ, Nat.zero_add, Nat.reduceAdd]
      rw [e14]
      have HB5 := hid (below_then HB.out (by rw [← HB1.out]; exact HB.out.size) hE)
      have HA5 := hid (HA.out.ext hE fun k hk => Nat.lt_of_lt_of_le (HK.out k hk) (by rw [← HB1.out]; exact HB.out.size))
      clear HB HA
      have HB := HB5; have HA := HA5
      clear HB5 HA5 hE c2 b0 b1 b2
      obtain ⟨c2, b0, b1, b2⟩ := HC.out _ HB.out
      have hbl2 := HB.out.size
      rw [HB1.out] at hbl2
      clear e14
      -- p is appended
      have Hbx := hid (box_row (d := [.string (str nm), .slice A n0 c, .int .i64 (p.2.safe : Int)]) (RFile.ext Hrel.out (HS0.out _ HB.out)) (fun k hk => Nat.lt_of_lt_of_le (HK.out k hk) hbl2) 88)
      have HAb := hid (HA.out.ext ((Below.refl _ _).alloc (Nat.le_refl _) (.cells #[.string (str nm), .slice A n0 c, .int .i64 (p.2.safe : Int)] 88)) fun k hk => Nat.lt_of_lt_of_le (HK.out k hk) hbl2)
      have HBb := hid (HB.out.alloc hbl2 (.cells #[.string (str nm), .slice A n0 c, .int .i64 (p.2.safe : Int)] 88))
      go_wp2_with (at_builtin; refine wpList_appK (w0 := W1) (R := RFile) (xs := acc) (base := B) finfo rfl (.tmp 32) (.tmp 34) rfl rfl HAb HK HBb (by simp; omega) (some ⟨W.heap.size, 0, none⟩) 1 1 [p] rfl rfl Hbx (by omega) (by omega) ?_; intro v2 W2 HA2 HB2 _)
      clear Hbx HAb HBb
      clear HA HB c2 b0 b1 b2
      have HA := HA2; have HB := HB2
      clear HA2 HB2 hbl2
      obtain ⟨c2, b0, b1, b2⟩ := HC.out _ HB.out
      have hbl2 := HB.out.size
      rw [HB1.out] at hbl2
      apply wp_drawn [isV _, isV _, isV _, isV _, isV _, isV _, isV _, isV _, isV _, isV _, isV _] (by kernel_rfl)
      ·kernel_rfl
      ·refine ⟨?rfs0, ?rfs1, ?rfs2, ?rfs3, ?rfs4, ?rfs5, ?rfs6, ?rfs7, ?rfs8, ?rfs9, ?rfs10, trivial⟩
       case rfs0 | rfs1 | rfs2 =>
        intro v W hE hd; simp only [Region.wanted, ↓reduceIte]; (try simp [deps, waitsOn, Region.binds, knowing, isV, ownsV, anyV] at hd); simp only [putAll, List.take_succ_cons, List.take_zero, List.drop_succ_cons, List.drop_zero, Act.put, List.setIfInBounds_toArray, List.set_cons_zero, List.set_cons_succ, Nat.zero_add, Nat.reduceAdd]; go_simp; exact ⟨Below.refl _ _, rfl⟩
       case rfs3 =>
        intro v W hE hd; simp only [Region.wanted, ↓reduceIte]; (try simp [deps, waitsOn, Region.binds, knowing, isV, ownsV, anyV] at hd); simp only [putAll, List.take_succ_cons, List.take_zero, List.drop_succ_cons, List.drop_zero, Act.put, List.setIfInBounds_toArray, List.set_cons_zero, List.set_cons_succ, Nat.zero_add, Nat.reduceAdd]
        have e1 := cell_below hE c2
        go_simp
        exact ⟨Below.refl _ _, rfl⟩
       case rfs4 | rfs5 | rfs6 =>
        intro v W hE hd; simp only [Region.wanted, ↓reduceIte]; (try simp [deps, waitsOn, Region.binds, knowing, isV, ownsV, anyV] at hd); simp only [putAll, List.take_succ_cons, List.take_zero, List.drop_succ_cons, List.drop_zero, Act.put, List.setIfInBounds_toArray, List.set_cons_zero, List.set_cons_succ, Nat.zero_add, Nat.reduceAdd]; go_simp; exact ⟨Below.refl _ _, rfl⟩
       case rfs7 =>
        intro v W hE hd; simp only [Region.wanted, ↓reduceIte]; (try simp [deps, waitsOn, Region.binds, knowing, isV, ownsV, anyV] at hd); simp only [putAll, List.take_succ_cons, List.take_zero, List.drop_succ_cons, List.drop_zero, Act.put, List.setIfInBounds_toArray, List.set_cons_zero, List.set_cons_succ, Nat.zero_add, Nat.reduceAdd]
        have e1 := cell_below hE (HX.out _ HB.out).1
        go_simp
        exact ⟨Below.refl _ _, rfl⟩
       case rfs8 =>
        intro v W hE hd; simp only [Region.wanted, ↓reduceIte]; (try simp [deps, waitsOn, Region.binds, knowing, isV, ownsV, anyV] at hd); simp only [putAll, List.take_succ_cons, List.take_zero, List.drop_succ_cons, List.drop_zero, Act.put, List.setIfInBounds_toArray, List.set_cons_zero, List.set_cons_succ, Nat.zero_add, Nat.reduceAdd]; go_simp; exact ⟨Below.refl _ _, rfl⟩
       case rfs9 =>
        intro v W hE hd; simp only [Region.wanted, ↓reduceIte]; (try simp [deps, waitsOn, Region.binds, knowing, isV, ownsV, anyV] at hd); simp only [putAll, List.take_succ_cons, List.take_zero, List.drop_succ_cons, List.drop_zero, Act.put, List.setIfInBounds_toArray, List.set_cons_zero, List.set_cons_succ, Nat.zero_add, Nat.reduceAdd]
        have e1 := cell_below hE b0
        go_simp
        exact ⟨Below.refl _ _, rfl⟩
       case rfs10 =>
        intro v W hE hd; simp only [Region.wanted, ↓reduceIte]; (try simp [deps, waitsOn, Region.binds, knowing, isV, ownsV, anyV] at hd); simp only [putAll, List.take_succ_cons, List.take_zero, List.drop_succ_cons, List.drop_zero, Act.put, List.setIfInBounds_toArray, List.set_cons_zero, List.set_cons_succ, Nat.zero_add, Nat.reduceAdd]; go_simp; exact ⟨Below.refl _ _, rfl⟩
      ·rintro v W hE ⟨-, -, -, -, -, -, -, -, -, -, e10, -⟩
       have e10 := (show v 10 = _ from e10)
       simp only [putAll, List.take_succ_cons, List.take_zero, List.drop_succ_cons, List.drop_zero, Act.put, List.setIfInBounds_toArray, List.set_cons_zero, List.set_cons_succ, Nat.zero_add, Nat.reduceAdd]
       rw [e10]
       have HB5 := hid (below_then HB.out (by rw [← HB1.out]; exact HB.out.size) hE)
       have HA5 := hid (HA.out.ext hE fun k hk => Nat.lt_of_lt_of_le (HK.out k hk) (by rw [← HB1.out]; exact HB.out.size))
       clear HB HA
       have HB := HB5; have HA := HA5
       clear HB5 HA5 hE c2 b0 b1 b2
       obtain ⟨c2, b0, b1, b2⟩ := HC.out _ HB.out
       have hbl2 := HB.out.size
       rw [HB1.out] at hbl2
       clear e10
       go_wp2_with fail
       go_roundw
       case rel => exact ⟨k + 1, true, _, by omega, by simp at hacc ⊢; omega, by go_num, rfl, HA, HB, HG2⟩
       case measure => simp [intOf]; omega
    ·have Hne := hid heq
     have hq1 : (a == nm) = false := beq_eq_false_iff_ne.2 heq
     have hq2 : (nm == a) = false := beq_eq_false_iff_ne.2 fun e => heq e.symm
     clear heq
     cases hb : bytesBefore nm a
     ·have HG2 := hid (show (acc ++ [x]) ++ putGo p false (F.drop (k + 1)) = putGo p false F by
       rw [← HG.out]
       conv => rhs; unfold putGo
       rw [if_neg (by rw [← Ha.out, ← Hnm.out, hb]; rintro (h | h); cases h; exact Hne.out h.symm), if_neg (by rw [← Ha.out, ← Hnm.out]; exact Hne.out)]
       simp)
      go_wp2_with fail
      apply wp_drawn [isV _, isV _, isV _, isV _, isV _, isV _, isV _, isV _, isV _, isV _, isV _, isV _, isV _, isV _, isV _] (by kernel_rfl)
      ·kernel_rfl
      ·refine ⟨?ras0, ?ras1, ?ras2, ?ras3, ?ras4, ?ras5, ?ras6, ?ras7, ?ras8, ?ras9, ?ras10, ?ras11, ?ras12, ?ras13, ?ras14, trivial⟩
       case ras0 | ras1 | ras2 =>
        intro v W hE hd; simp only [Region.wanted, ↓reduceIte]; (try simp [deps, waitsOn, Region.binds, knowing, isV, ownsV, anyV] at hd); simp only [putAll, List.take_succ_cons, List.take_zero, List.drop_succ_cons, List.drop_zero, Act.put, List.setIfInBounds_toArray, List.set_cons_zero, List.set_cons_succ, Nat.zero_add, Nat.reduceAdd]; go_simp; exact ⟨Below.refl _ _, rfl⟩
       case ras3 =>
        intro v W hE hd; (try simp [deps, waitsOn, Region.binds, knowing, isV, ownsV, anyV] at hd); simp only [putAll, List.take_succ_cons, List.take_zero, List.drop_succ_cons, List.drop_zero, Act.put, List.setIfInBounds_toArray, List.set_cons_zero, List.set_cons_succ, Nat.zero_add, Nat.reduceAdd]; rw [if_pos (by simp [Region.wanted, yielded, hd])]; go_simp; exact ⟨Below.refl _ _, rfl⟩
       case ras4 =>
        intro v W hE hd; (try simp [deps, waitsOn, Region.binds, knowing, isV, ownsV, anyV] at hd); simp only [putAll, List.take_succ_cons, List.take_zero, List.drop_succ_cons, List.drop_zero, Act.put, List.setIfInBounds_toArray, List.set_cons_zero, List.set_cons_succ, Nat.zero_add, Nat.reduceAdd]; rw [if_pos (by simp [Region.wanted, yielded, hd])]
        have e1 := cell_below hE b0
        go_simp
        exact ⟨Below.refl _ _, rfl⟩
       case ras5 | ras6 | ras7 =>
        intro v W hE hd; (try simp [deps, waitsOn, Region.binds, knowing, isV, ownsV, anyV] at hd); simp only [putAll, List.take_succ_cons, List.take_zero, List.drop_succ_cons, List.drop_zero, Act.put, List.setIfInBounds_toArray, List.set_cons_zero, List.set_cons_succ, Nat.zero_add, Nat.reduceAdd]; rw [if_pos (by simp [Region.wanted, yielded, hd])]; go_simp; exact ⟨Below.refl _ _, rfl⟩
       case ras8 =>
        intro v W hE hd; (try simp [deps, waitsOn, Region.binds, knowing, isV, ownsV, anyV] at hd); simp only [putAll, List.take_succ_cons, List.take_zero, List.drop_succ_cons, List.drop_zero, Act.put, List.setIfInBounds_toArray, List.set_cons_zero, List.set_cons_succ, Nat.zero_add, Nat.reduceAdd]; rw [if_pos (by simp [Region.wanted, yielded, hd])]
        have e1 := cell_below hE c2
        go_simp
        exact ⟨Below.refl _ _, rfl⟩
       case ras9 | ras10 | ras11 =>
        intro v W hE hd; (try simp [deps, waitsOn, Region.binds, knowing, isV, ownsV, anyV] at hd); simp only [putAll, List.take_succ_cons, List.take_zero, List.drop_succ_cons, List.drop_zero, Act.put, List.setIfInBounds_toArray, List.set_cons_zero, List.set_cons_succ, Nat.zero_add, Nat.reduceAdd]; rw [if_pos (by simp [Region.wanted, yielded, hd])]; go_simp; exact ⟨Below.refl _ _, rfl⟩
       case ras12 =>
        intro v W hE hd; (try simp [deps, waitsOn, Region.binds, knowing, isV, ownsV, anyV] at hd); simp only [putAll, List.take_succ_cons, List.take_zero, List.drop_succ_cons, List.drop_zero, Act.put, List.setIfInBounds_toArray, List.set_cons_zero, List.set_cons_succ, Nat.zero_add, Nat.reduceAdd]; rw [if_pos (by simp [Region.wanted, yielded, hd])]
        have e1 := cell_below hE (HX.out _ HB.out).1
        go_simp
        exact ⟨Below.refl _ _, rfl⟩
       case ras13 =>
        intro v W hE hd; (try simp [deps, waitsOn, Region.binds, knowing, isV, ownsV, anyV] at hd); simp only [putAll, List.take_succ_cons, List.take_zero, List.drop_succ_cons, List.drop_zero, Act.put, List.setIfInBounds_toArray, List.set_cons_zero, List.set_cons_succ, Nat.zero_add, Nat.reduceAdd]; rw [if_pos (by simp [Region.wanted, yielded, hd])]; go_simp; exact ⟨Below.refl _ _, rfl⟩
       case ras14 =>
        intro v W hE hd; simp only [Region.wanted, ↓reduceIte]; (try simp [deps, waitsOn, Region.binds, knowing, isV, ownsV, anyV] at hd); simp only [putAll, List.take_succ_cons, List.take_zero, List.drop_succ_cons, List.drop_zero, Act.put, List.setIfInBounds_toArray, List.set_cons_zero, List.set_cons_succ, Nat.zero_add, Nat.reduceAdd]; go_simp; exact ⟨Below.refl _ _, rfl⟩
      ·rintro v W hE ⟨-, -, -, -, -, -, -, -, -, -, -, -, -, -, e14, -⟩
       have e14 := (show v 14 = _ from e14)
       simp only [putAll, List.take_succ_cons, List.take_zero, List.drop_succ_cons, List.drop_zero, Act.put, List.setIfInBounds_toArray, List.set_cons_zero, List.set_cons_succ, Nat.zero_add, Nat.reduceAdd]
       rw [e14]
       have HB5 := hid (below_then HB.out (by rw [← HB1.out]; exact HB.out.size) hE)
       have HA5 := hid (HA.out.ext hE fun k hk => Nat.lt_of_lt_of_le (HK.out k hk) (by rw [← HB1.out]; exact HB.out.size))
       clear HB HA
       have HB := HB5; have HA := HA5
       clear HB5 HA5 hE c2 b0 b1 b2
       obtain ⟨c2, b0, b1, b2⟩ := HC.out _ HB.out
       have hbl2 := HB.out.size
       rw [HB1.out] at hbl2
       clear e14
       go_wp2_with fail
       apply wp_drawn [isV _, isV _, isV _, isV _, isV _, isV _, isV _, isV _, isV _, isV _, isV _] (by kernel_rfl)
       ·kernel_rfl
       ·refine ⟨?rbs0, ?rbs1, ?rbs2, ?rbs3, ?rbs4, ?rbs5, ?rbs6, ?rbs7, ?rbs8, ?rbs9, ?rbs10, trivial⟩
        case rbs0 | rbs1 | rbs2 =>
         intro v W hE hd; simp only [Region.wanted, ↓reduceIte]; (try simp [deps, waitsOn, Region.binds, knowing, isV, ownsV, anyV] at hd); simp only [putAll, List.take_succ_cons, List.take_zero, List.drop_succ_cons, List.drop_zero, Act.put, List.setIfInBounds_toArray, List.set_cons_zero, List.set_cons_succ, Nat.zero_add, Nat.reduceAdd]; go_simp; exact ⟨Below.refl _ _, rfl⟩
        case rbs3 =>
         intro v W hE hd; simp only [Region.wanted, ↓reduceIte]; (try simp [deps, waitsOn, Region.binds, knowing, isV, ownsV, anyV] at hd); simp only [putAll, List.take_succ_cons, List.take_zero, List.drop_succ_cons, List.drop_zero, Act.put, List.setIfInBounds_toArray, List.set_cons_zero, List.set_cons_succ, Nat.zero_add, Nat.reduceAdd]
         have e1 := cell_below hE c2
         go_simp
         exact ⟨Below.refl _ _, rfl⟩
        case rbs4 | rbs5 | rbs6 =>
         intro v W hE hd; simp only [Region.wanted, ↓reduceIte]; (try simp [deps, waitsOn, Region.binds, knowing, isV, ownsV, anyV] at hd); simp only [putAll, List.take_succ_cons, List.take_zero, List.drop_succ_cons, List.drop_zero, Act.put, List.setIfInBounds_toArray, List.set_cons_zero, List.set_cons_succ, Nat.zero_add, Nat.reduceAdd]; go_simp; exact ⟨Below.refl _ _, rfl⟩
        case rbs7 =>
         intro v W hE hd; simp only [Region.wanted, ↓reduceIte]; (try simp [deps, waitsOn, Region.binds, knowing, isV, ownsV, anyV] at hd); simp only [putAll, List.take_succ_cons, List.take_zero, List.drop_succ_cons, List.drop_zero, Act.put, List.setIfInBounds_toArray, List.set_cons_zero, List.set_cons_succ, Nat.zero_add, Nat.reduceAdd]
         have e1 := cell_below hE (HX.out _ HB.out).1
         go_simp
         exact ⟨Below.refl _ _, rfl⟩
        case rbs8 =>
         intro v W hE hd; simp only [Region.wanted, ↓reduceIte]; (try simp [deps, waitsOn, Region.binds, knowing, isV, ownsV, anyV] at hd); simp only [putAll, List.take_succ_cons, List.take_zero, List.drop_succ_cons, List.drop_zero, Act.put, List.setIfInBounds_toArray, List.set_cons_zero, List.set_cons_succ, Nat.zero_add, Nat.reduceAdd]; go_simp; exact ⟨Below.refl _ _, rfl⟩
        case rbs9 =>
         intro v W hE hd; simp only [Region.wanted, ↓reduceIte]; (try simp [deps, waitsOn, Region.binds, knowing, isV, ownsV, anyV] at hd); simp only [putAll, List.take_succ_cons, List.take_zero, List.drop_succ_cons, List.drop_zero, Act.put, List.setIfInBounds_toArray, List.set_cons_zero, List.set_cons_succ, Nat.zero_add, Nat.reduceAdd]
         have e1 := cell_below hE b0
         go_simp
         exact ⟨Below.refl _ _, rfl⟩
        case rbs10 =>
         intro v W hE hd; simp only [Region.wanted, ↓reduceIte]; (try simp [deps, waitsOn, Region.binds, knowing, isV, ownsV, anyV] at hd); simp only [putAll, List.take_succ_cons, List.take_zero, List.drop_succ_cons, List.drop_zero, Act.put, List.setIfInBounds_toArray, List.set_cons_zero, List.set_cons_succ, Nat.zero_add, Nat.reduceAdd]; go_simp; exact ⟨Below.refl _ _, rfl⟩
       ·rintro v W hE ⟨-, -, -, -, -, -, -, -, -, -, e10, -⟩
        have e10 := (show v 10 = _ from e10)
        simp only [putAll, List.take_succ_cons, List.take_zero, List.drop_succ_cons, List.drop_zero, Act.put, List.setIfInBounds_toArray, List.set_cons_zero, List.set_cons_succ, Nat.zero_add, Nat.reduceAdd]
        rw [e10]
        have HB5 := hid (below_then HB.out (by rw [← HB1.out]; exact HB.out.size) hE)
        have HA5 := hid (HA.out.ext hE fun k hk => Nat.lt_of_lt_of_le (HK.out k hk) (by rw [← HB1.out]; exact HB.out.size))
        clear HB HA
        have HB := HB5; have HA := HA5
        clear HB5 HA5 hE c2 b0 b1 b2
        obtain ⟨c2, b0, b1, b2⟩ := HC.out _ HB.out
        have hbl2 := HB.out.size
        rw [HB1.out] at hbl2
        clear e10
        -- the element is appended
        obtain ⟨x0, x1, x2⟩ := HX.out _ HB.out
        have Hbx := hid (box_row (d := [.string (str a), .slice A1 n1 c1, .int .i64 (x.2.safe : Int)]) (RFile.ext Hd.out (HS0.out _ HB.out)) (fun k hk => Nat.lt_of_lt_of_le (HK.out k hk) hbl2) 88)
        have HAb := hid (HA.out.ext ((Below.refl _ _).alloc (Nat.le_refl _) (.cells #[.string (str a), .slice A1 n1 c1, .int .i64 (x.2.safe : Int)] 88)) fun k hk => Nat.lt_of_lt_of_le (HK.out k hk) hbl2)
        have HBb := hid (HB.out.alloc hbl2 (.cells #[.string (str a), .slice A1 n1 c1, .int .i64 (x.2.safe : Int)] 88))
        go_wp2_with (at_builtin; refine wpList_appK (w0 := W1) (R := RFile) (xs := acc) (base := B) finfo rfl (.tmp 47) (.tmp 55) rfl rfl HAb HK HBb (by simp; omega) (some ⟨W.heap.size, 0, none⟩) 1 1 [x] rfl rfl Hbx (by first | omega | (simp; omega)) (by first | omega | (simp; omega)) ?_; intro v2 W2 HA2 HB2 _)
        go_roundw
        case rel => exact ⟨k + 1, false, _, by omega, by simp at hacc ⊢; omega, by go_num, rfl, HA2, HB2, HG2⟩
        case measure => simp [intOf]; omega
     ·have HG2 := hid (show (acc ++ [p]) ++ [x] ++ putGo p true (F.drop (k + 1)) = putGo p false F by
       rw [← HG.out]
       conv => rhs; unfold putGo
       rw [if_pos (.inl (by rw [← Ha.out, ← Hnm.out]; exact hb)), if_neg (by rw [← Ha.out, ← Hnm.out]; exact Hne.out)]
       simp)
      go_wp2_with fail
      apply wp_drawn [isV _, isV _, isV _, isV _, isV _, isV _, isV _, isV _, isV _, isV _, isV _, isV _, isV _, isV _, isV _] (by kernel_rfl)
      ·kernel_rfl
      ·refine ⟨?res0, ?res1, ?res2, ?res3, ?res4, ?res5, ?res6, ?res7, ?res8, ?res9, ?res10, ?res11, ?res12, ?res13, ?res14, trivial⟩
       case res0 | res1 | res2 =>
        intro v W hE hd; simp only [Region.wanted, ↓reduceIte]; (try simp [deps, waitsOn, Region.binds, knowing, isV, ownsV, anyV] at hd); simp only [putAll, List.take_succ_cons, List.take_zero, List.drop_succ_cons, List.drop_zero, Act.put, List.setIfInBounds_toArray, List.set_cons_zero, List.set_cons_succ, Nat.zero_add, Nat.reduceAdd]; go_simp; exact ⟨Below.refl _ _, rfl⟩
       case res3 =>
        intro v W hE hd; (try simp [deps, waitsOn, Region.binds, knowing, isV, ownsV, anyV] at hd); simp only [putAll, List.take_succ_cons, List.take_zero, List.drop_succ_cons, List.drop_zero, Act.put, List.setIfInBounds_toArray, List.set_cons_zero, List.set_cons_succ, Nat.zero_add, Nat.reduceAdd]; rw [if_pos (by simp [Region.wanted, yielded, hd])]; go_simp; exact ⟨Below.refl _ _, rfl⟩
       case res4 =>
        intro v W hE hd; (try simp [deps, waitsOn, Region.binds, knowing, isV, ownsV, anyV] at hd); simp only [putAll, List.take_succ_cons, List.take_zero, List.drop_succ_cons, List.drop_zero, Act.put, List.setIfInBounds_toArray, List.set_cons_zero, List.set_cons_succ, Nat.zero_add, Nat.reduceAdd]; rw [if_pos (by simp [Region.wanted, yielded, hd])]
        have e1 := cell_below hE b0
        go_simp
        exact ⟨Below.refl _ _, rfl⟩
       case res5 | res6 | res7 =>
        intro v W hE hd; (try simp [deps, waitsOn, Region.binds, knowing, isV, ownsV, anyV] at hd); simp only [putAll, List.take_succ_cons, List.take_zero, List.drop_succ_cons, List.drop_zero, Act.put, List.setIfInBounds_toArray, List.set_cons_zero, List.set_cons_succ, Nat.zero_add, Nat.reduceAdd]; rw [if_pos (by simp [Region.wanted, yielded, hd])]; go_simp; exact ⟨Below.refl _ _, rfl⟩
       case res8 =>
        intro v W hE hd; (try simp [deps, waitsOn, Region.binds, knowing, isV, ownsV, anyV] at hd); simp only [putAll, List.take_succ_cons, List.take_zero, List.drop_succ_cons, List.drop_zero, Act.put, List.setIfInBounds_toArray, List.set_cons_zero, List.set_cons_succ, Nat.zero_add, Nat.reduceAdd]; rw [if_pos (by simp [Region.wanted, yielded, hd])]
        have e1 := cell_below hE c2
        go_simp
        exact ⟨Below.refl _ _, rfl⟩
       case res9 | res10 | res11 =>
        intro v W hE hd; (try simp [deps, waitsOn, Region.binds, knowing, isV, ownsV, anyV] at hd); simp only [putAll, List.take_succ_cons, List.take_zero, List.drop_succ_cons, List.drop_zero, Act.put, List.setIfInBounds_toArray, List.set_cons_zero, List.set_cons_succ, Nat.zero_add, Nat.reduceAdd]; rw [if_pos (by simp [Region.wanted, yielded, hd])]; go_simp; exact ⟨Below.refl _ _, rfl⟩
       case res12 =>
        intro v W hE hd; (try simp [deps, waitsOn, Region.binds, knowing, isV, ownsV, anyV] at hd); simp only [putAll, List.take_succ_cons, List.take_zero, List.drop_succ_cons, List.drop_zero, Act.put, List.setIfInBounds_toArray, List.set_cons_zero, List.set_cons_succ, Nat.zero_add, Nat.reduceAdd]; rw [if_pos (by simp [Region.wanted, yielded, hd])]
        have e1 := cell_below hE (HX.out _ HB.out).1
        go_simp
        exact ⟨Below.refl _ _, rfl⟩
       case res13 =>
        intro v W hE hd; (try simp [deps, waitsOn, Region.binds, knowing, isV, ownsV, anyV] at hd); simp only [putAll, List.take_succ_cons, List.take_zero, List.drop_succ_cons, List.drop_zero, Act.put, List.setIfInBounds_toArray, List.set_cons_zero, List.set_cons_succ, Nat.zero_add, Nat.reduceAdd]; rw [if_pos (by simp [Region.wanted, yielded, hd])]; go_simp; exact ⟨Below.refl _ _, rfl⟩
       case res14 =>
        intro v W hE hd; simp only [Region.wanted, ↓reduceIte]; (try simp [deps, waitsOn, Region.binds, knowing, isV, ownsV, anyV] at hd); simp only [putAll, List.take_succ_cons, List.take_zero, List.drop_succ_cons, List.drop_zero, Act.put, List.setIfInBounds_toArray, List.set_cons_zero, List.set_cons_succ, Nat.zero_add, Nat.reduceAdd]; go_simp; exact ⟨Below.refl _ _, rfl⟩
      ·rintro v W hE ⟨-, -, -, -, -, -, -, -, -, -, -, -, -, -, e14, -⟩
       have e14 := (show v 14 = _ from e14)
       simp only [putAll, List.take_succ_cons, List.take_zero, List.drop_succ_cons, List.drop_zero, Act.put, List.setIfInBounds_toArray, List.set_cons_zero, List.set_cons_succ, Nat.zero_add, Nat.reduceAdd]
       rw [e14]
       have HB5 := hid (below_then HB.out (by rw [← HB1.out]; exact HB.out.size) hE)
       have HA5 := hid (HA.out.ext hE fun k hk => Nat.lt_of_lt_of_le (HK.out k hk) (by rw [← HB1.out]; exact HB.out.size))
       clear HB HA
       have HB := HB5; have HA := HA5
       clear HB5 HA5 hE c2 b0 b1 b2
       obtain ⟨c2, b0, b1, b2⟩ := HC.out _ HB.out
       have hbl2 := HB.out.size
       rw [HB1.out] at hbl2
       clear e14
       -- p is appended
       have Hbx := hid (box_row (d := [.string (str nm), .slice A n0 c, .int .i64 (p.2.safe : Int)]) (RFile.ext Hrel.out (HS0.out _ HB.out)) (fun k hk => Nat.lt_of_lt_of_le (HK.out k hk) hbl2) 88)
       have HAb := hid (HA.out.ext ((Below.refl _ _).alloc (Nat.le_refl _) (.cells #[.string (str nm), .slice A n0 c, .int .i64 (p.2.safe : Int)] 88)) fun k hk => Nat.lt_of_lt_of_le (HK.out k hk) hbl2)
       have HBb := hid (HB.out.alloc hbl2 (.cells #[.string (str nm), .slice A n0 c, .int .i64 (p.2.safe : Int)] 88))
       go_wp2_with (at_builtin; refine wpList_appK (w0 := W1) (R := RFile) (xs := acc) (base := B) finfo rfl (.tmp 32) (.tmp 34) rfl rfl HAb HK HBb (by simp; omega) (some ⟨W.heap.size, 0, none⟩) 1 1 [p] rfl rfl Hbx (by omega) (by omega) ?_; intro v2 W2 HA2 HB2 _)
       clear Hbx HAb HBb
       clear HA HB c2 b0 b1 b2
       have HA := HA2; have HB := HB2
       clear HA2 HB2 hbl2
       obtain ⟨c2, b0, b1, b2⟩ := HC.out _ HB.out
       have hbl2 := HB.out.size
       rw [HB1.out] at hbl2
       apply wp_drawn [isV _, isV _, isV _, isV _, isV _, isV _, isV _, isV _, isV _, isV _, isV _] (by kernel_rfl)
       ·kernel_rfl
       ·refine ⟨?rds0, ?rds1, ?rds2, ?rds3, ?rds4, ?rds5, ?rds6, ?rds7, ?rds8, ?rds9, ?rds10, trivial⟩
        case rds0 | rds1 | rds2 =>
         intro v W hE hd; simp only [Region.wanted, ↓reduceIte]; (try simp [deps, waitsOn, Region.binds, knowing, isV, ownsV, anyV] at hd); simp only [putAll, List.take_succ_cons, List.take_zero, List.drop_succ_cons, List.drop_zero, Act.put, List.setIfInBounds_toArray, List.set_cons_zero, List.set_cons_succ, Nat.zero_add, Nat.reduceAdd]; go_simp; exact ⟨Below.refl _ _, rfl⟩
        case rds3 =>
         intro v W hE hd; simp only [Region.wanted, ↓reduceIte]; (try simp [deps, waitsOn, Region.binds, knowing, isV, ownsV, anyV] at hd); simp only [putAll, List.take_succ_cons, List.take_zero, List.drop_succ_cons, List.drop_zero, Act.put, List.setIfInBounds_toArray, List.set_cons_zero, List.set_cons_succ, Nat.zero_add, Nat.reduceAdd]
         have e1 := cell_below hE c2
         go_simp
         exact ⟨Below.refl _ _, rfl⟩
        case rds4 | rds5 | rds6 =>
         intro v W hE hd; simp only [Region.wanted, ↓reduceIte]; (try simp [deps, waitsOn, Region.binds, knowing, isV, ownsV, anyV] at hd); simp only [putAll, List.take_succ_cons, List.take_zero, List.drop_succ_cons, List.drop_zero, Act.put, List.setIfInBounds_toArray, List.set_cons_zero, List.set_cons_succ, Nat.zero_add, Nat.reduceAdd]; go_simp; exact ⟨Below.refl _ _, rfl⟩
        case rds7 =>
         intro v W hE hd; simp only [Region.wanted, ↓reduceIte]; (try simp [deps, waitsOn, Region.binds, knowing, isV, ownsV, anyV] at hd); simp only [putAll, List.take_succ_cons, List.take_zero, List.drop_succ_cons, List.drop_zero, Act.put, List.setIfInBounds_toArray, List.set_cons_zero, List.set_cons_succ, Nat.zero_add, Nat.reduceAdd]
         have e1 := cell_below hE (HX.out _ HB.out).1
         go_simp
         exact ⟨Below.refl _ _, rfl⟩
        case rds8 =>
         intro v W hE hd; simp only [Region.wanted, ↓reduceIte]; (try simp [deps, waitsOn, Region.binds, knowing, isV, ownsV, anyV] at hd); simp only [putAll, List.take_succ_cons, List.take_zero, List.drop_succ_cons, List.drop_zero, Act.put, List.setIfInBounds_toArray, List.set_cons_zero, List.set_cons_succ, Nat.zero_add, Nat.reduceAdd]; go_simp; exact ⟨Below.refl _ _, rfl⟩
        case rds9 =>
         intro v W hE hd; simp only [Region.wanted, ↓reduceIte]; (try simp [deps, waitsOn, Region.binds, knowing, isV, ownsV, anyV] at hd); simp only [putAll, List.take_succ_cons, List.take_zero, List.drop_succ_cons, List.drop_zero, Act.put, List.setIfInBounds_toArray, List.set_cons_zero, List.set_cons_succ, Nat.zero_add, Nat.reduceAdd]
         have e1 := cell_below hE b0
         go_simp
         exact ⟨Below.refl _ _, rfl⟩
        case rds10 =>
         intro v W hE hd; simp only [Region.wanted, ↓reduceIte]; (try simp [deps, waitsOn, Region.binds, knowing, isV, ownsV, anyV] at hd); simp only [putAll, List.take_succ_cons, List.take_zero, List.drop_succ_cons, List.drop_zero, Act.put, List.setIfInBounds_toArray, List.set_cons_zero, List.set_cons_succ, Nat.zero_add, Nat.reduceAdd]; go_simp; exact ⟨Below.refl _ _, rfl⟩
       ·rintro v W hE ⟨-, -, -, -, -, -, -, -, -, -, e10, -⟩
        have e10 := (show v 10 = _ from e10)
        simp only [putAll, List.take_succ_cons, List.take_zero, List.drop_succ_cons, List.drop_zero, Act.put, List.setIfInBounds_toArray, List.set_cons_zero, List.set_cons_succ, Nat.zero_add, Nat.reduceAdd]
        rw [e10]
        have HB5 := hid (below_then HB.out (by rw [← HB1.out]; exact HB.out.size) hE)
        have HA5 := hid (HA.out.ext hE fun k hk => Nat.lt_of_lt_of_le (HK.out k hk) (by rw [← HB1.out]; exact HB.out.size))
        clear HB HA
        have HB := HB5; have HA := HA5
        clear HB5 HA5 hE c2 b0 b1 b2
        obtain ⟨c2, b0, b1, b2⟩ := HC.out _ HB.out
        have hbl2 := HB.out.size
        rw [HB1.out] at hbl2
        clear e10
        -- the element is appended
        obtain ⟨x0, x1, x2⟩ := HX.out _ HB.out
        have Hbx := hid (box_row (d := [.string (str a), .slice A1 n1 c1, .int .i64 (x.2.safe : Int)]) (RFile.ext Hd.out (HS0.out _ HB.out)) (fun k hk => Nat.lt_of_lt_of_le (HK.out k hk) hbl2) 88)
        have HAb := hid (HA.out.ext ((Below.refl _ _).alloc (Nat.le_refl _) (.cells #[.string (str a), .slice A1 n1 c1, .int .i64 (x.2.safe : Int)] 88)) fun k hk => Nat.lt_of_lt_of_le (HK.out k hk) hbl2)
        have HBb := hid (HB.out.alloc hbl2 (.cells #[.string (str a), .slice A1 n1 c1, .int .i64 (x.2.safe : Int)] 88))
        go_wp2_with (at_builtin; refine wpList_appK (w0 := W1) (R := RFile) (xs := (acc ++ [p])) (base := B) finfo rfl (.tmp 47) (.tmp 55) rfl rfl HAb HK HBb (by simp; omega) (some ⟨W.heap.size, 0, none⟩) 1 1 [x] rfl rfl Hbx (by first | omega | (simp; omega)) (by first | omega | (simp; omega)) ?_; intro v2 W2 HA2 HB2 _)
        go_roundw
        case rel => exact ⟨k + 1, true, _, by omega, by simp at hacc ⊢; omega, by go_num, rfl, HA2, HB2, HG2⟩
        case measure => simp [intOf]; omega
   ·by_cases heq : a = nm
    ·obtain rfl := heq.symm
     have hq1 : (nm == nm) = true := beq_self_eq_true nm
     have HG2 := hid (show acc ++ putGo p true (F.drop (k + 1)) = putGo p false F by
      rw [← HG.out]
      conv => rhs; unfold putGo
      rw [if_pos (by rw [← Ha.out, ← Hnm.out])]
      simp)
     go_wp2_with fail
     apply wp_drawn [isV _, isV _, isV _, anyV, anyV, anyV, anyV, anyV, anyV, anyV, anyV, anyV, anyV, anyV, isV _] (by kernel_rfl)
     ·kernel_rfl
     ·refine ⟨?rgs0, ?rgs1, ?rgs2, ?rgs3, ?rgs4, ?rgs5, ?rgs6, ?rgs7, ?rgs8, ?rgs9, ?rgs10, ?rgs11, ?rgs12, ?rgs13, ?rgs14, trivial⟩
      case rgs0 | rgs1 | rgs2 =>
       intro v W hE hd; simp only [Region.wanted, ↓reduceIte]; (try simp [deps, waitsOn, Region.binds, knowing, isV, ownsV, anyV] at hd); simp only [putAll, List.take_succ_cons, List.take_zero, List.drop_succ_cons, List.drop_zero, Act.put, List.setIfInBounds_toArray, List.set_cons_zero, List.set_cons_succ, Nat.zero_add, Nat.reduceAdd]; go_simp; exact ⟨Below.refl _ _, rfl⟩
      case rgs3 | rgs4 | rgs5 | rgs6 | rgs7 | rgs8 | rgs9 | rgs10 | rgs11 | rgs12 | rgs13 =>
       intro v W hE hd; (try simp [deps, waitsOn, Region.binds, knowing, isV, ownsV, anyV] at hd); simp only [putAll, List.take_succ_cons, List.take_zero, List.drop_succ_cons, List.drop_zero, Act.put, List.setIfInBounds_toArray, List.set_cons_zero, List.set_cons_succ, Nat.zero_add, Nat.reduceAdd]; rw [if_neg (by simp [Region.wanted, yielded, hd])]; exact trivial
      case rgs14 =>
       intro v W hE hd; simp only [Region.wanted, ↓reduceIte]; (try simp [deps, waitsOn, Region.binds, knowing, isV, ownsV, anyV] at hd); simp only [putAll, List.take_succ_cons, List.take_zero, List.drop_succ_cons, List.drop_zero, Act.put, List.setIfInBounds_toArray, List.set_cons_zero, List.set_cons_succ, Nat.zero_add, Nat.reduceAdd]; go_simp; exact ⟨Below.refl _ _, rfl⟩
     ·rintro v W hE ⟨-, -, -, -, -, -, -, -, -, -, -, -, -, -, e14, -⟩
      have e14 := (show v 14 = _ from e14)
      simp only [putAll, List.take_succ_cons, List.take_zero, List.drop_succ_cons, List.drop_zero, Act.put, List.setIfInBounds_toArray, List.set_cons_zero, List.set_cons_succ, Nat.zero_add, Nat.reduceAdd]
      rw [e14]
      have HB5 := hid (below_then HB.out (by rw [← HB1.out]; exact HB.out.size) hE)
      have HA5 := hid (HA.out.ext hE fun k hk => Nat.lt_of_lt_of_le (HK.out k hk) (by rw [← HB1.out]; exact HB.out.size))
      clear HB HA
      have HB := HB5; have HA := HA5
      clear HB5 HA5 hE c2 b0 b1 b2
      obtain ⟨c2, b0, b1, b2⟩ := HC.out _ HB.out
      have hbl2 := HB.out.size
      rw [HB1.out] at hbl2
      clear e14
      go_wp2_with fail
      apply wp_drawn [isV _, isV _, isV _, isV _, isV _, isV _, isV _, isV _, isV _, isV _, isV _] (by kernel_rfl)
      ·kernel_rfl
      ·refine ⟨?rhs0, ?rhs1, ?rhs2, ?rhs3, ?rhs4, ?rhs5, ?rhs6, ?rhs7, ?rhs8, ?rhs9, ?rhs10, trivial⟩
       case rhs0 | rhs1 | rhs2 =>
        intro v W hE hd; simp only [Region.wanted, ↓reduceIte]; (try simp [deps, waitsOn, Region.binds, knowing, isV, ownsV, anyV] at hd); simp only [putAll, List.take_succ_cons, List.take_zero, List.drop_succ_cons, List.drop_zero, Act.put, List.setIfInBounds_toArray, List.set_cons_zero, List.set_cons_succ, Nat.zero_add, Nat.reduceAdd]; go_simp; exact ⟨Below.refl _ _, rfl⟩
       case rhs3 =>
        intro v W hE hd; simp only [Region.wanted, ↓reduceIte]; (try simp [deps, waitsOn, Region.binds, knowing, isV, ownsV, anyV] at hd); simp only [putAll, List.take_succ_cons, List.take_zero, List.drop_succ_cons, List.drop_zero, Act.put, List.setIfInBounds_toArray, List.set_cons_zero, List.set_cons_succ, Nat.zero_add, Nat.reduceAdd]
        have e1 := cell_below hE c2
        go_simp
        exact ⟨Below.refl _ _, rfl⟩
       case rhs4 | rhs5 | rhs6 =>
        intro v W hE hd; simp only [Region.wanted, ↓reduceIte]; (try simp [deps, waitsOn, Region.binds, knowing, isV, ownsV, anyV] at hd); simp only [putAll, List.take_succ_cons, List.take_zero, List.drop_succ_cons, List.drop_zero, Act.put, List.setIfInBounds_toArray, List.set_cons_zero, List.set_cons_succ, Nat.zero_add, Nat.reduceAdd]; go_simp; exact ⟨Below.refl _ _, rfl⟩
       case rhs7 =>
        intro v W hE hd; simp only [Region.wanted, ↓reduceIte]; (try simp [deps, waitsOn, Region.binds, knowing, isV, ownsV, anyV] at hd); simp only [putAll, List.take_succ_cons, List.take_zero, List.drop_succ_cons, List.drop_zero, Act.put, List.setIfInBounds_toArray, List.set_cons_zero, List.set_cons_succ, Nat.zero_add, Nat.reduceAdd]
        have e1 := cell_below hE (HX.out _ HB.out).1
        go_simp
        exact ⟨Below.refl _ _, rfl⟩
       case rhs8 =>
        intro v W hE hd; simp only [Region.wanted, ↓reduceIte]; (try simp [deps, waitsOn, Region.binds, knowing, isV, ownsV, anyV] at hd); simp only [putAll, List.take_succ_cons, List.take_zero, List.drop_succ_cons, List.drop_zero, Act.put, List.setIfInBounds_toArray, List.set_cons_zero, List.set_cons_succ, Nat.zero_add, Nat.reduceAdd]; go_simp; exact ⟨Below.refl _ _, rfl⟩
       case rhs9 =>
        intro v W hE hd; simp only [Region.wanted, ↓reduceIte]; (try simp [deps, waitsOn, Region.binds, knowing, isV, ownsV, anyV] at hd); simp only [putAll, List.take_succ_cons, List.take_zero, List.drop_succ_cons, List.drop_zero, Act.put, List.setIfInBounds_toArray, List.set_cons_zero, List.set_cons_succ, Nat.zero_add, Nat.reduceAdd]
        have e1 := cell_below hE b0
        go_simp
        exact ⟨Below.refl _ _, rfl⟩
       case rhs10 =>
        intro v W hE hd; simp only [Region.wanted, ↓reduceIte]; (try simp [deps, waitsOn, Region.binds, knowing, isV, ownsV, anyV] at hd); simp only [putAll, List.take_succ_cons, List.take_zero, List.drop_succ_cons, List.drop_zero, Act.put, List.setIfInBounds_toArray, List.set_cons_zero, List.set_cons_succ, Nat.zero_add, Nat.reduceAdd]; go_simp; exact ⟨Below.refl _ _, rfl⟩
      ·rintro v W hE ⟨-, -, -, -, -, -, -, -, -, -, e10, -⟩
       have e10 := (show v 10 = _ from e10)
       simp only [putAll, List.take_succ_cons, List.take_zero, List.drop_succ_cons, List.drop_zero, Act.put, List.setIfInBounds_toArray, List.set_cons_zero, List.set_cons_succ, Nat.zero_add, Nat.reduceAdd]
       rw [e10]
       have HB5 := hid (below_then HB.out (by rw [← HB1.out]; exact HB.out.size) hE)
       have HA5 := hid (HA.out.ext hE fun k hk => Nat.lt_of_lt_of_le (HK.out k hk) (by rw [← HB1.out]; exact HB.out.size))
       clear HB HA
       have HB := HB5; have HA := HA5
       clear HB5 HA5 hE c2 b0 b1 b2
       obtain ⟨c2, b0, b1, b2⟩ := HC.out _ HB.out
       have hbl2 := HB.out.size
       rw [HB1.out] at hbl2
       clear e10
       go_wp2_with fail
       go_roundw
       case rel => exact ⟨k + 1, true, _, by omega, by simp at hacc ⊢; omega, by go_num, rfl, HA, HB, HG2⟩
       case measure => simp [intOf]; omega
    ·have Hne := hid heq
     have hq1 : (a == nm) = false := beq_eq_false_iff_ne.2 heq
     clear heq
     have HG2 := hid (show (acc ++ [x]) ++ putGo p true (F.drop (k + 1)) = putGo p false F by
      rw [← HG.out]
      conv => rhs; unfold putGo
      rw [if_neg (by rw [← Ha.out, ← Hnm.out]; exact Hne.out)]
      simp)
     go_wp2_with fail
     apply wp_drawn [isV _, isV _, isV _, anyV, anyV, anyV, anyV, anyV, anyV, anyV, anyV, anyV, anyV, anyV, isV _] (by kernel_rfl)
     ·kernel_rfl
     ·refine ⟨?ris0, ?ris1, ?ris2, ?ris3, ?ris4, ?ris5, ?ris6, ?ris7, ?ris8, ?ris9, ?ris10, ?ris11, ?ris12, ?ris13, ?ris14, trivial⟩
      case ris0 | ris1 | ris2 =>
       intro v W hE hd; simp only [Region.wanted, ↓reduceIte]; (try simp [deps, waitsOn, Region.binds, knowing, isV, ownsV, anyV] at hd); simp only [putAll, List.take_succ_cons, List.take_zero, List.drop_succ_cons, List.drop_zero, Act.put, List.setIfInBounds_toArray, List.set_cons_zero, List.set_cons_succ, Nat.zero_add, Nat.reduceAdd]; go_simp; exact ⟨Below.refl _ _, rfl⟩
      case ris3 | ris4 | ris5 | ris6 | ris7 | ris8 | ris9 | ris10 | ris11 | ris12 | ris13 =>
       intro v W hE hd; (try simp [deps, waitsOn, Region.binds, knowing, isV, ownsV, anyV] at hd); simp only [putAll, List.take_succ_cons, List.take_zero, List.drop_succ_cons, List.drop_zero, Act.put, List.setIfInBounds_toArray, List.set_cons_zero, List.set_cons_succ, Nat.zero_add, Nat.reduceAdd]; rw [if_neg (by simp [Region.wanted, yielded, hd])]; exact trivial
      case ris14 =>
       intro v W hE hd; simp only [Region.wanted, ↓reduceIte]; (try simp [deps, waitsOn, Region.binds, knowing, isV, ownsV, anyV] at hd); simp only [putAll, List.take_succ_cons, List.take_zero, List.drop_succ_cons, List.drop_zero, Act.put, List.setIfInBounds_toArray, List.set_cons_zero, List.set_cons_succ, Nat.zero_add, Nat.reduceAdd]; go_simp; exact ⟨Below.refl _ _, rfl⟩
     ·rintro v W hE ⟨-, -, -, -, -, -, -, -, -, -, -, -, -, -, e14, -⟩
      have e14 := (show v 14 = _ from e14)
      simp only [putAll, List.take_succ_cons, List.take_zero, List.drop_succ_cons, List.drop_zero, Act.put, List.setIfInBounds_toArray, List.set_cons_zero, List.set_cons_succ, Nat.zero_add, Nat.reduceAdd]
      rw [e14]
      have HB5 := hid (below_then HB.out (by rw [← HB1.out]; exact HB.out.size) hE)
      have HA5 := hid (HA.out.ext hE fun k hk => Nat.lt_of_lt_of_le (HK.out k hk) (by rw [← HB1.out]; exact HB.out.size))
      clear HB HA
      have HB := HB5; have HA := HA5
      clear HB5 HA5 hE c2 b0 b1 b2
      obtain ⟨c2, b0, b1, b2⟩ := HC.out _ HB.out
      have hbl2 := HB.out.size
      rw [HB1.out] at hbl2
      clear e14
      go_wp2_with fail
      apply wp_drawn [isV _, isV _, isV _, isV _, isV _, isV _, isV _, isV _, isV _, isV _, isV _] (by kernel_rfl)
      ·kernel_rfl
      ·refine ⟨?rjs0, ?rjs1, ?rjs2, ?rjs3, ?rjs4, ?rjs5, ?rjs6, ?rjs7, ?rjs8, ?rjs9, ?rjs10, trivial⟩
       case rjs0 | rjs1 | rjs2 =>
        intro v W hE hd; simp only [Region.wanted, ↓reduceIte]; (try simp [deps, waitsOn, Region.binds, knowing, isV, ownsV, anyV] at hd); simp only [putAll, List.take_succ_cons, List.take_zero, List.drop_succ_cons, List.drop_zero, Act.put, List.setIfInBounds_toArray, List.set_cons_zero, List.set_cons_succ, Nat.zero_add, Nat.reduceAdd]; go_simp; exact ⟨Below.refl _ _, rfl⟩
       case rjs3 =>
        intro v W hE hd; simp only [Region.wanted, ↓reduceIte]; (try simp [deps, waitsOn, Region.binds, knowing, isV, ownsV, anyV] at hd); simp only [putAll, List.take_succ_cons, List.take_zero, List.drop_succ_cons, List.drop_zero, Act.put, List.setIfInBounds_toArray, List.set_cons_zero, List.set_cons_succ, Nat.zero_add, Nat.reduceAdd]
        have e1 := cell_below hE c2
        go_simp
        exact ⟨Below.refl _ _, rfl⟩
       case rjs4 | rjs5 | rjs6 =>
        intro v W hE hd; simp only [Region.wanted, ↓reduceIte]; (try simp [deps, waitsOn, Region.binds, knowing, isV, ownsV, anyV] at hd); simp only [putAll, List.take_succ_cons, List.take_zero, List.drop_succ_cons, List.drop_zero, Act.put, List.setIfInBounds_toArray, List.set_cons_zero, List.set_cons_succ, Nat.zero_add, Nat.reduceAdd]; go_simp; exact ⟨Below.refl _ _, rfl⟩
       case rjs7 =>
        intro v W hE hd; simp only [Region.wanted, ↓reduceIte]; (try simp [deps, waitsOn, Region.binds, knowing, isV, ownsV, anyV] at hd); simp only [putAll, List.take_succ_cons, List.take_zero, List.drop_succ_cons, List.drop_zero, Act.put, List.setIfInBounds_toArray, List.set_cons_zero, List.set_cons_succ, Nat.zero_add, Nat.reduceAdd]
        have e1 := cell_below hE (HX.out _ HB.out).1
        go_simp
        exact ⟨Below.refl _ _, rfl⟩
       case rjs8 =>
        intro v W hE hd; simp only [Region.wanted, ↓reduceIte]; (try simp [deps, waitsOn, Region.binds, knowing, isV, ownsV, anyV] at hd); simp only [putAll, List.take_succ_cons, List.take_zero, List.drop_succ_cons, List.drop_zero, Act.put, List.setIfInBounds_toArray, List.set_cons_zero, List.set_cons_succ, Nat.zero_add, Nat.reduceAdd]; go_simp; exact ⟨Below.refl _ _, rfl⟩
       case rjs9 =>
        intro v W hE hd; simp only [Region.wanted, ↓reduceIte]; (try simp [deps, waitsOn, Region.binds, knowing, isV, ownsV, anyV] at hd); simp only [putAll, List.take_succ_cons, List.take_zero, List.drop_succ_cons, List.drop_zero, Act.put, List.setIfInBounds_toArray, List.set_cons_zero, List.set_cons_succ, Nat.zero_add, Nat.reduceAdd]
        have e1 := cell_below hE b0
        go_simp
        exact ⟨Below.refl _ _, rfl⟩
       case rjs10 =>
        intro v W hE hd; simp only [Region.wanted, ↓reduceIte]; (try simp [deps, waitsOn, Region.binds, knowing, isV, ownsV, anyV] at hd); simp only [putAll, List.take_succ_cons, List.take_zero, List.drop_succ_cons, List.drop_zero, Act.put, List.setIfInBounds_toArray, List.set_cons_zero, List.set_cons_succ, Nat.zero_add, Nat.reduceAdd]; go_simp; exact ⟨Below.refl _ _, rfl⟩
      ·rintro v W hE ⟨-, -, -, -, -, -, -, -, -, -, e10, -⟩
       have e10 := (show v 10 = _ from e10)
       simp only [putAll, List.take_succ_cons, List.take_zero, List.drop_succ_cons, List.drop_zero, Act.put, List.setIfInBounds_toArray, List.set_cons_zero, List.set_cons_succ, Nat.zero_add, Nat.reduceAdd]
       rw [e10]
       have HB5 := hid (below_then HB.out (by rw [← HB1.out]; exact HB.out.size) hE)
       have HA5 := hid (HA.out.ext hE fun k hk => Nat.lt_of_lt_of_le (HK.out k hk) (by rw [← HB1.out]; exact HB.out.size))
       clear HB HA
       have HB := HB5; have HA := HA5
       clear HB5 HA5 hE c2 b0 b1 b2
       obtain ⟨c2, b0, b1, b2⟩ := HC.out _ HB.out
       have hbl2 := HB.out.size
       rw [HB1.out] at hbl2
       clear e10
       -- the element is appended
       obtain ⟨x0, x1, x2⟩ := HX.out _ HB.out
       have Hbx := hid (box_row (d := [.string (str a), .slice A1 n1 c1, .int .i64 (x.2.safe : Int)]) (RFile.ext Hd.out (HS0.out _ HB.out)) (fun k hk => Nat.lt_of_lt_of_le (HK.out k hk) hbl2) 88)
       have HAb := hid (HA.out.ext ((Below.refl _ _).alloc (Nat.le_refl _) (.cells #[.string (str a), .slice A1 n1 c1, .int .i64 (x.2.safe : Int)] 88)) fun k hk => Nat.lt_of_lt_of_le (HK.out k hk) hbl2)
       have HBb := hid (HB.out.alloc hbl2 (.cells #[.string (str a), .slice A1 n1 c1, .int .i64 (x.2.safe : Int)] 88))
       go_wp2_with (at_builtin; refine wpList_appK (w0 := W1) (R := RFile) (xs := acc) (base := B) finfo rfl (.tmp 47) (.tmp 55) rfl rfl HAb HK HBb (by simp; omega) (some ⟨W.heap.size, 0, none⟩) 1 1 [x] rfl rfl Hbx (by first | omega | (simp; omega)) (by first | omega | (simp; omega)) ?_; intro v2 W2 HA2 HB2 _)
       go_roundw
       case rel => exact ⟨k + 1, true, _, by omega, by simp at hacc ⊢; omega, by go_num, rfl, HA2, HB2, HG2⟩
       case measure => simp [intOf]; omega
  ·obtain rfl : k = N := by omega
   have hdrop : F.drop k = [] := List.drop_eq_nil_of_le (by have := HN.out; omega)
   rw [hdrop] at HG
   obtain ⟨c2, b0, b1, b2⟩ := HC.out _ HB.out
   cases done
   ·have HG2 := hid (show acc ++ [p] = putF p.1 p.2 F from (by rw [← putGo_eq p F H.out.up]; exact HG.out))
    have Hbx := hid (box_row (d := [.string (str nm), .slice A n0 c, .int .i64 (p.2.safe : Int)]) (RFile.ext Hrel.out (HS0.out _ HB.out)) (fun k hk => Nat.lt_of_lt_of_le (HK.out k hk) hbl2) 88)
    have HAb := hid (HA.out.ext ((Below.refl _ _).alloc (Nat.le_refl _) (.cells #[.string (str nm), .slice A n0 c, .int .i64 (p.2.safe : Int)] 88)) fun k hk => Nat.lt_of_lt_of_le (HK.out k hk) hbl2)
    have HBb := hid (HB.out.alloc hbl2 (.cells #[.string (str nm), .slice A n0 c, .int .i64 (p.2.safe : Int)] 88))
    have hacc2 : acc.length ≤ 201 := by have := Bool.toNat_le false; omega
    have HFZ : Hid (∀ wr : World, Below B W1 wr → wr.frozen? ⟨y, 2, none⟩ = false) := fun wr hb => (hb.frozen (p := ⟨y, 2, none⟩) hyB).trans ((World.frozen?_of_block (a := ⟨y, 2, none⟩) (E1.out.block y (by omega))).trans (H.out.free 2))
    go_wp2_with (at_builtin; refine wpList_appK (w0 := W1) (R := RFile) (xs := acc) (base := B) finfo rfl (.tmp 59) (.tmp 61) rfl rfl HAb HK HBb (by simp; omega) (some ⟨wr.heap.size, 0, none⟩) 1 1 [p] rfl rfl Hbx (by omega) (by omega) ?_; intro v2 W2 HA2 HB2 _; obtain ⟨A9, c9, cs9, rfl, -⟩ := HA2.out.read; have c2' := (HC.out _ HB2.out).1; have hfz := HFZ.out _ HB2.out)
    rw [HG2.out] at HA2
    have hlen : (putF p.1 p.2 F).length = acc.length + 1 := by rw [← HG2.out]; simp
    rw [hlen] at HA2
    clear hlen
    go_wp2
    go_end0
    rw [show putF nm p.2 F = putF p.1 p.2 F by rw [Hnm.out]]
    exact ⟨rfl, ref_stored H.out Hok.out Hfew.out (Below.trans (E1.out.mono (Nat.le_refl _)) (HB2.out.mono (by have := HWsz.out; omega))) HA2.out (by have := HWsz.out; omega)⟩
   ·have HG2 := hid (show acc = putF p.1 p.2 F from (by rw [← putGo_eq p F H.out.up, ← HG.out]; simp [putGo]))
    have hfz : wr.frozen? ⟨y, 2, none⟩ = false := (HB.out.frozen (p := ⟨y, 2, none⟩) hyB).trans ((World.frozen?_of_block (a := ⟨y, 2, none⟩) (E1.out.block y (by omega))).trans (H.out.free 2))
    rw [HG2.out] at HA
    obtain ⟨A9, c9, cs9, e9, -⟩ := HA.out.read
    subst e9
    go_wp2
    go_end0
    rw [show putF nm p.2 F = putF p.1 p.2 F by rw [Hnm.out]]
    exact ⟨rfl, ref_stored H.out Hok.out Hfew.out (Below.trans (E1.out.mono (Nat.le_refl _)) (HB.out.mono (by have := HWsz.out; omega))) HA.out (by have := HWsz.out; omega)⟩
end Go.Proofs.YtakebdeldndaaaaGreatDoor
/- The reference's disk: Used, List, Read. -/
namespace Go.Proofs.YtakebdeldndaaaaGreatDoor
open Go Go.RowKit
set_option linter.unusedSimpArgs false
set_option linter.unusedVariables false
theorem RefIs.reads {w : World} {S : Nat → Prop} {y g : Nat} {q l : Int} {F : Files} (h : RefIs w S y g q l F) : ∃ A0 c0, w.cell? ⟨y, 2, none⟩ = some (.slice A0 F.length c0) ∧ F.length ≤ c0 ∧ c0 ≤ 9223372036854775807 ∧
  ∀ k (hk : k < F.length), ∃ gb A1 c1, A0 = some ⟨gb, 0, none⟩ ∧ gb < w.heap.size ∧ w.cell? ⟨gb, k * 3, none⟩ = some (.string (str F[k].1)) ∧ w.cell? ⟨gb, k * 3 + 1, none⟩ = some (.slice A1 F[k].2.b.length c1) ∧ w.cell? ⟨gb, k * 3 + 2, none⟩ = some (.int .i64 (F[k].2.safe : Int)) ∧
   F[k].2.b.length ≤ c1 ∧ c1 ≤ 9223372036854775807 ∧ RK w (Imm w S) A1 (bvs F[k].2.b) := by
 obtain ⟨v, e1, hO, -⟩ := h.row
 obtain ⟨A0, c0, cs, rfl, hc, hcm, -, -⟩ := hO.read
 refine ⟨A0, c0, e1, hc, hcm, fun k hk => ?_⟩
 obtain ⟨gb, c1, e0, -, -, hgb, -, -, hcell⟩ := hO.at_ (by omega)
 simp only [Value.slice.injEq] at e0
 obtain ⟨rfl, -, rfl⟩ := e0
 obtain ⟨d, hd, hcc⟩ := hcell k hk
 obtain ⟨A1, c1, rfl, h1, h2, h3⟩ := rfile_rel hd
 exact ⟨gb, A1, c1, rfl, hgb, hcc 0 _ rfl, hcc 1 _ rfl, hcc 2 _ rfl, h1, h2, h3⟩
theorem usedF_take (F : Files) (k : Nat) (hk : k < F.length) : usedF (F.take (k + 1)) = usedF (F.take k) + F[k].2.b.length := by
 unfold usedF
 rw [List.take_succ_eq_append_getElem hk, List.map_append, List.sum_append]
 simp
theorem usedF_ok {F : Files} (h : OkF F) : usedF F ≤ 65536 * F.length := by
 induction F with
 | nil => simp [usedF]
 | cons p F ih =>
  have h1 := (h p (by simp)).1
  have h2 := ih fun q hq => h q (by simp [hq])
  unfold usedF at h2 ⊢
  rw [List.map_cons, List.sum_cons, List.length_cons, Nat.mul_add]
  omega
set_option maxRecDepth 100000 in
set_option maxHeartbeats 2000000 in
theorem used_ref {w : World} {S : Nat → Prop} {y g : Nat} {q l : Int} {F : Files} (h : RefIs w S y g q l F) :
  Calls Tryz.prog 41 #[.pointer (some ⟨y, 0, none⟩)] w fun e w' => e = .returned (.int .i64 (usedF F : Int)) ∧ w = w' := by
 obtain ⟨A0, c0, c2, hc, hcm, hcell⟩ := h.reads
 have hfew := h.few
 have Hok := hid h.ok
 obtain ⟨N, hN⟩ : ∃ N, N = F.length := ⟨_, rfl⟩
 rw [← hN] at c2 hfew hc
 have HN := hid hN
 have HC := hid hcell
 clear h hN hcell
 go_enter Tryz.func41, Tryz.ntmps41
 go_wp2_with fail
 go_loop [3, 4] (fun n i => ∃ k : Nat, k ≤ N ∧ i = .int .i64 (k : Int) ∧ n = .int .i64 (usedF (F.take k) : Int)) (fun _ i => N - (intOf i).toNat)
 case atStart => exact ⟨0, by omega, rfl, rfl⟩
 case round =>
  obtain ⟨k, hk, rfl, rfl⟩ := hrel
  obtain ⟨T, hT⟩ : ∃ T, T = usedF (F.take k) := ⟨_, rfl⟩
  rw [← hT]
  have hTle : T ≤ 65536 * 200 := by
   have h1 := usedF_ok (F := F.take k) fun p hp => Hok.out p (List.mem_of_mem_take hp)
   have h2 := List.length_take_le k F
   rw [hT]
   have := HN.out
   omega
  have HT := hid hT; clear hT
  by_cases hlt : k < N
  ·have hkF : k < F.length := by have := HN.out; omega
   obtain ⟨gb, A1, c1, rfl, -, -, f1, -, -⟩ := HC.out k hkF
   have Hs := hid (usedF_take F k hkF)
   have hb := (Hok.out F[k] (List.getElem_mem _)).1
   generalize F[k].2.b.length = n1 at f1 Hs hb
   have hlt' : (k : Int) < (N : Int) := by omega
   go_wp2
   go_round
   case rel => exact ⟨k + 1, by omega, by go_num, by rw [Hs.out, ← HT.out]; go_num⟩
   case measure => simp [intOf]; omega
  ·obtain rfl : k = N := by omega
   have hall := hid (show F.take k = F from List.take_of_length_le (by have := HN.out; omega))
   rw [hall.out] at HT
   go_wp2
   go_ret
   exact ⟨by rw [HT.out]; rfl, rfl⟩
theorem rows_strD_eq {w : World} {K : Nat → Prop} : ∀ {l : List (List UInt8)} {cs : List Value}, Rows Rep.str w K l cs → cs = l.map strV
 | [], _, h => h
 | x :: l, _, ⟨c, r, e, hc, hr⟩ => by rw [e, show c = [strV x] from hc, rows_strD_eq hr]; rfl
theorem OwnK.strs {K : Nat → Prop} {w : World} {base : Nat} {v : Value} {l : List (List UInt8)} (h : OwnK Rep.str 9 K w base v l) : OwnR Rep.str 9 w base v l := by
 obtain ⟨cs, ho, hr⟩ := h
 rw [rows_strD_eq hr] at ho
 exact own_strs ho
theorem strinfo : SlInfo Tryz.prog 41 9 (.string ⟨#[]⟩) Rep.str.size 16 := ⟨Tryz.underlying41, by kernel_rfl, rfl, by decide⟩
set_option maxRecDepth 100000 in
set_option maxHeartbeats 2000000 in
theorem list_ref {w : World} {S : Nat → Prop} {y g : Nat} {q l : Int} {F : Files} (h : RefIs w S y g q l F) :
  Calls Tryz.prog 23 #[.pointer (some ⟨y, 0, none⟩)] w fun e w' => ∃ v, e = .returned v ∧ OwnR Rep.str 9 w' w.heap.size v (F.map (·.1)) ∧ Ext w w' := by
 obtain ⟨A0, c0, c2, hc, hcm, hcell⟩ := h.reads
 have hfew := h.few
 have hylt := h.lt
 obtain ⟨N, hN⟩ : ∃ N, N = F.length := ⟨_, rfl⟩
 rw [← hN] at c2 hfew hc
 have HN := hid hN
 have HC := hid hcell
 have C2 := hid c2
 clear h hN hcell c2
 go_enter Tryz.func23, Tryz.ntmps23
 go_wp2_with fail
 go_loopw [3, 4] (fun v i wr => ∃ k : Nat, k ≤ N ∧ i = .int .i64 (k : Int) ∧ Hid (OwnK Rep.str 9 (fun _ => False) wr w.heap.size v ((F.map (·.1)).take k)) ∧ Hid (Ext w wr)) (fun _ i _ => N - (intOf i).toNat)
 case atStart => exact ⟨0, by omega, rfl, OwnK.empty w _ (Nat.le_refl _), (Below.refl _ _).alloc (Nat.le_refl _) _⟩
 case round =>
  obtain ⟨k, hk, rfl, HO, HE⟩ := hrel
  have c2 := cell_below HE.out C2.out
  by_cases hlt : k < N
  ·have hkF : k < F.length := by have := HN.out; omega
   obtain ⟨gb, A1, c1, rfl, -, f0, -⟩ := HC.out k hkF
   have hts := hid (show (F.map (·.1)).take (k + 1) = (F.map (·.1)).take k ++ [F[k].1] by rw [List.take_succ_eq_append_getElem (by simpa using hkF)]; simp)
   generalize F[k].1 = a at f0 hts
   have g0 := cell_below HE.out f0
   clear f0
   have hlt' : (k : Int) < (N : Int) := by omega
   have hwl := HE.out.size
   have hlen : ((F.map (·.1)).take k).length ≤ 200 := by have := List.length_take_le k (F.map (·.1)); omega
   have Hbx := hid (box_row (R := Rep.str) (w := wr) (K := fun _ => False) (x := a) (d := [.string (str a)]) rfl (fun _ h => h.elim) 9)
   have HAb := hid (HO.out.ext ((Below.refl _ _).alloc (Nat.le_refl _) (.cells #[.string (str a)] 9)) fun _ h => h.elim)
   have HBb := hid (HE.out.alloc hwl (.cells #[.string (str a)] 9))
   go_wp2_with (at_builtin; refine wpList_appK (w0 := w) (R := Rep.str) (xs := (F.map (·.1)).take k) (base := w.heap.size) strinfo rfl (.tmp 15) (.tmp 24) rfl rfl HAb (fun _ h => h.elim) HBb (by simp; omega) (some ⟨wr.heap.size, 0, none⟩) 1 1 [a] rfl rfl Hbx (by omega) (by omega) ?_; intro v2 W2 HA2 HB2 _)
   go_roundw
   case rel => exact ⟨k + 1, by omega, by go_num, by rw [hts.out]; exact HA2, HB2⟩
   case measure => simp [intOf]; omega
  ·obtain rfl : k = N := by omega
   have hall := hid (show (F.map (·.1)).take k = F.map (·.1) from List.take_of_length_le (by have := HN.out; simp; omega))
   rw [hall.out] at HO
   go_wp2
   go_ret
   exact ⟨_, rfl, HO.out.strs, HE.out⟩
end Go.Proofs.YtakebdeldndaaaaGreatDoor
/- The reference's disk: Read, drop. -/
namespace Go.Proofs.YtakebdeldndaaaaGreatDoor
open Go Go.RowKit
set_option linter.unusedSimpArgs false
set_option linter.unusedVariables false
theorem idx_cases (F : Files) (nm : List UInt8) : (atF F nm = none ∧ idxI F nm = -1) ∨ ∃ (k : Nat) (hk : k < F.length) (f : File), atF F nm = some f ∧ idxI F nm = (k : Int) ∧ F[k]'hk = (nm, f) := by
 unfold idxI idxF atF
 cases h : F.findIdx? (·.1 == nm) with
 | none =>
  left
  rw [List.findIdx?_eq_none_iff] at h
  refine ⟨?_, rfl⟩
  have : F.find? (·.1 == nm) = none := by
   rw [List.find?_eq_none]
   intro p hp
   simpa using h p hp
  rw [this]; rfl
 | some k =>
  right
  obtain ⟨hk, h1, h2⟩ := List.findIdx?_eq_some_iff_getElem.1 h
  refine ⟨k, hk, F[k].2, ?_, rfl, ?_⟩
  ·have : F.find? (·.1 == nm) = some F[k] := by
    rw [List.find?_eq_some_iff_getElem]
    exact ⟨h1, k, hk, rfl, fun j hj => by have := h2 j hj; simpa using this⟩
   rw [this]; rfl
  ·rw [← show F[k].1 = nm by simpa using h1]
theorem delF_at {F : Files} (hu : Up F) {k : Nat} (hk : k < F.length) : delF F[k].1 F = F.take k ++ F.drop (k + 1) := by
 induction F generalizing k with
 | nil => simp at hk
 | cons p F ih =>
  obtain ⟨h1, h2⟩ := List.pairwise_cons.1 hu
  cases k with
  | zero =>
   have hn : ∀ q ∈ F, q.1 ≠ p.1 := fun q hq => (bb_ne (h1 q hq)).symm
   simp only [List.getElem_cons_zero, List.take_zero, List.nil_append, List.drop_succ_cons, List.drop_zero]
   unfold delF
   rw [List.filter_cons, if_neg (by simp), DelL_none p.1 F hn]
  | succ k =>
   have hk' : k < F.length := by simpa using hk
   have hne : p.1 ≠ F[k].1 := bb_ne (h1 _ (List.getElem_mem hk'))
   have ih := ih h2 hk'
   simp only [List.getElem_cons_succ, List.take_succ_cons, List.drop_succ_cons, List.cons_append]
   unfold delF at ih ⊢
   rw [List.filter_cons, if_pos (by simpa using hne), ih]
set_option maxRecDepth 100000 in
set_option maxHeartbeats 2000000 in
theorem read_ref {w : World} {S : Nat → Prop} {y g : Nat} {q l : Int} {F : Files} (h : RefIs w S y g q l F) (nm : List UInt8) :
  Calls Tryz.prog 30 #[.pointer (some ⟨y, 0, none⟩), .string (str nm)] w fun e w' => ∃ v, e = .returned (.tuple #[v, .int .i64 (readE F nm)]) ∧ OB w' w.heap.size v (readB F nm) ∧ Ext w w' := by
 have hcc := at_ref h nm
 obtain ⟨A0, c0, c2, hc, hcm, hcell⟩ := h.reads
 have hfew := h.few
 have Hok := hid h.ok
 obtain ⟨N, hN⟩ : ∃ N, N = F.length := ⟨_, rfl⟩
 rw [← hN] at c2 hfew hc
 have HN := hid hN
 clear h
 rcases idx_cases F nm with ⟨h1, h2⟩ | ⟨k, hk, f, h1, h2, h3⟩
 ·have e1 := hid (show readE F nm = 11 by unfold readE; rw [h1]; rfl)
  have e2 := hid (show readB F nm = [] by unfold readB; rw [h1]; rfl)
  rw [h2] at hcc
  clear h1 h2 hcell hN
  go_enter Tryz.func30, Tryz.ntmps30
  go_wp2_with fail
  refine hcc.mono ?_
  rintro e w' ⟨rfl, rfl⟩
  clear hcc
  go_wp2
  go_ret2
  exact ⟨_, by rw [e1.out]; rfl, by rw [e2.out]; exact OB_none _ _, Below.refl _ _⟩
 ·have e1 := hid (show readE F nm = 0 by unfold readE; rw [h1]; rfl)
  have e2 := hid (show readB F nm = f.b by unfold readB; rw [h1]; rfl)
  rw [h2] at hcc
  obtain ⟨gb, A1, c1, rfl, hgb, -, f1, -, hl1, hl2, hr⟩ := hcell k hk
  rw [h3] at f1 hr hl1
  have hb64 := (Hok.out F[k] (List.getElem_mem _)).1
  rw [h3] at hb64
  obtain ⟨n1, hn1⟩ : ∃ n1, n1 = f.b.length := ⟨_, rfl⟩
  rw [← hn1] at f1 hb64
  have Hn1 := hid hn1
  have Hr := hid (RK.rv hr)
  have hkN : (k : Int) < (N : Int) := by omega
  have hk0 : ¬ ((k : Int) < 0) := by omega
  have hk00 : (0 : Int) ≤ (k : Int) := by omega
  have HOe := hid (OB_empty w w.heap.size (Nat.le_refl _))
  have HEe := hid (show Ext w (w.alloc (.cells #[] 5)) from (Below.refl _ _).alloc (Nat.le_refl _) _)
  have f1' := cell_below HEe.out f1
  have c2' := cell_below HEe.out c2
  clear h1 h2 hcell hN h3 hr hn1 hk
  go_enter Tryz.func30, Tryz.ntmps30
  go_wp2_with fail
  refine hcc.mono ?_
  rintro e w' ⟨rfl, rfl⟩
  clear hcc
  go_wp2_with (at_builtin; refine wpList_appB (w0 := w) rfl (.tmp 12) (.tmp 20) rfl w.heap.size _ [] rfl HOe HEe (by simp) A1 c1 n1 f.b rfl Hn1 (Hr.out.below HEe.out) (by simp; omega) ?_; intro v2 W2 HO2 HB2 _)
  go_ret2
  exact ⟨_, by rw [e1.out]; rfl, by rw [e2.out]; exact HO2.out, HB2.out⟩
theorem step_app {P : Program} {o : Oper} {a : Act} {w w' : World} {K : Act → World → Prop} {Q : Exit → Act → World → Prop} (s x : Operand) {t u : TypeId} (ho : o.op = .call { callee := .builtin .append, args := #[s, x], argTypes := #[t, u] }) {vs vx v' : Value}
  (hs : a.eval s = vs) (hx : a.eval x = vx) (hrun : (Builtin.append_ #[t, u] o.type #[vs, vx]).run P w = .ok v' w') (h : K (a.put o.dst v') w') : o.wp P a w K Q := by
 unfold Oper.wp
 simp [execOp, ho, resolve, invoke, builtin, hs, hx, hrun, Result.andThen]
 exact h
def ownsK (S : Nat → Prop) (w0 : World) (xs : Files) : SPred := ⟨fun v w => OwnK RFile 88 (Imm w0 S) w w0.heap.size v xs ∧ w0.heap.size ≤ w.heap.size, fun _ _ _ h hE => ⟨h.1.ext hE fun k hk => Nat.lt_of_lt_of_le hk.1 h.2, Nat.le_trans h.2 hE.size⟩⟩
def ownsE (S : Nat → Prop) (w0 : World) : SPred := ⟨fun v w => ∃ g, v = .slice (some ⟨g, 0, none⟩) 0 0 ∧ OwnK RFile 88 (Imm w0 S) w w0.heap.size v [] ∧ w0.heap.size ≤ w.heap.size,
 fun _ _ _ ⟨g, e, h1, h2⟩ hE => ⟨g, e, h1.ext hE fun k hk => Nat.lt_of_lt_of_le hk.1 h2, Nat.le_trans h2 hE.size⟩⟩
theorem RefIs.part {w W : World} {S : Nat → Prop} {y g : Nat} {q l : Int} {F : Files} (h : RefIs w S y g q l F) (hE : Ext w W) (i j : Nat) (hij : i ≤ j) (hj : j ≤ F.length) : ∃ A0 c0 gb, w.cell? ⟨y, 2, none⟩ = some (.slice A0 F.length c0) ∧ (0 < F.length → A0 = some ⟨gb, 0, none⟩) ∧
  (0 < F.length → ∃ cs, Rows RFile W (Imm w S) ((F.take j).drop i) cs ∧ RV W (some ⟨gb, i * 3, none⟩) cs) := by
 obtain ⟨v, e1, hO, -⟩ := h.row
 obtain ⟨A0, c0, cs, rfl, hc, hcm, hr, hv⟩ := hO.read
 by_cases h0 : 0 < F.length
 ·obtain ⟨gb, c1, e0, -⟩ := hO.at_ h0
  simp only [Value.slice.injEq] at e0
  obtain ⟨rfl, -, rfl⟩ := e0
  refine ⟨_, _, gb, e1, fun _ => rfl, fun _ => ⟨(cs.take (j * RFile.size)).drop (i * RFile.size), ((hr.take j).drop i).ext fun k hk => hE.block k hk.1, ?_⟩⟩
  have h1 := ((hv.take (j * RFile.size)).drop (i * RFile.size)).below hE
  rwa [Nat.zero_add] at h1
 ·exact ⟨A0, c0, 0, e1, fun h => absurd h h0, fun h => absurd h h0⟩
theorem ref_stored2 {w W : World} {S : Nat → Prop} {y g : Nat} {q l : Int} {F F' : Files} {v : Value} {B : Nat} (h : RefIs w S y g q l F) (hu : Up F') (hok : OkF F') (hfew : F'.length ≤ 200)
  (hE : Ext w W) (hO : OwnK RFile 88 (Imm w S) W B v F') (hB : w.heap.size ≤ B) :
  ∃ S' g', RefIs (W.setCell ⟨y, 2, none⟩ v) S' y g' q l F' ∧ RStep w (W.setCell ⟨y, 2, none⟩ v) S S' y g ∧ (g' = g ∨ w.heap.size ≤ g') := by
 have hy := h.lt
 have hb := hE.block y hy
 obtain ⟨v0, e1, -, -⟩ := h.row
 have hsz := hE.size
 have hglt := h.glt
 obtain ⟨g', hob, hg'⟩ : ∃ g', (v.ownBlock = none ∨ v.ownBlock = some g') ∧ ((v.ownBlock = none ∧ g' = g) ∨ (v.ownBlock = some g' ∧ B ≤ g' ∧ g' < W.heap.size)) := by
  obtain ⟨cs, ho, -⟩ := hO
  cases hq : v.ownBlock with
  | none => exact ⟨g, .inl rfl, .inl ⟨rfl, rfl⟩⟩
  | some k => have := World.ownsRow.lt ho k hq; exact ⟨k, .inr rfl, .inr ⟨rfl, this.1, this.2⟩⟩
 have hgg : g' = g ∨ w.heap.size ≤ g' := by
  rcases hg' with ⟨-, h⟩ | ⟨-, h, -⟩
  ·exact .inl h
  ·exact .inr (by omega)
 have hgW : g' < W.heap.size := by
  rcases hg' with ⟨-, h⟩ | ⟨-, -, h⟩
  ·omega
  ·exact h
 have hS' : ∀ k, (W.setCell ⟨y, 2, none⟩ v).heap.size ≤ k → ¬ (S k ∨ k = g') := fun k hk => by
  have hk' : W.heap.size ≤ k := by simpa using hk
  rintro (h' | h')
  ·exact h.fresh k (by omega) h'
  ·omega
 refine ⟨fun k => S k ∨ k = g', g', ⟨?_, ?_, ?_, ⟨v, ?_, ?_, ?_⟩, .inl h.own, .inr rfl, by simpa using hgW, hS', hfew, hu, hok, h.lr⟩, ⟨⟨hE.os, hE.tape, hE.output, by simpa using hsz, fun k hk h1 _ => (heap_setCell_other W ⟨y, 2, none⟩ k v h1).trans (hE.block k hk)⟩, fun k hk => ⟨fun h' => by rcases h' with h' | h'; exact h'; rcases hgg with e | e; (rw [h', e]; exact h.ownG); omega, .inl⟩, hS'⟩, hgg⟩
 ·exact (World.cell?_setCell_other (w := W) (a := ⟨y, 2, none⟩) (b := ⟨y, 0, none⟩) (v := v) (h := by simp)).trans ((World.cell?_of_block (a := ⟨y, 0, none⟩) hb).trans h.quota)
 ·exact (World.cell?_setCell_other (w := W) (a := ⟨y, 2, none⟩) (b := ⟨y, 1, none⟩) (v := v) (h := by simp)).trans ((World.cell?_of_block (a := ⟨y, 1, none⟩) hb).trans h.left)
 ·intro k; simp only [World.frozen?_setCell]; exact (World.frozen?_of_block (a := ⟨y, k, none⟩) hb).trans (h.free k)
 ·exact World.cell?_setCell_same (w := W) (a := ⟨y, 2, none⟩) (h := (World.cell?_of_block (a := ⟨y, 2, none⟩) hb).trans e1) ..
 ·refine ((OwnK.kept (w' := W.setCell ⟨y, 2, none⟩ v) hO (row := some y) ⟨rfl, rfl, rfl, by simp, fun k _ hk => heap_setCell_other W ⟨y, 2, none⟩ k v (fun e => hk (by rw [e]))⟩ ?_ fun k hk => ⟨by have := hk.1; omega, fun e => hk.2 (by simp only [Option.some.injEq] at e; rw [← e]; exact h.own)⟩).mono fun k hk => ⟨by have := hk.1; simp; omega, ?_⟩).base' (Nat.zero_le _)
  ·rcases hg' with ⟨e, -⟩ | ⟨e, h1, -⟩
   ·exact .inl e
   ·exact .inr (by rw [e]; intro e'; simp only [Option.some.injEq] at e'; omega)
  rintro (h' | h')
  ·exact hk.2 h'
  ·rcases hgg with e | e
   ·exact hk.2 (by rw [h', e]; exact h.ownG)
   ·have := hk.1; omega
 ·rcases hg' with ⟨e, -⟩ | ⟨e, h1, -⟩
  ·exact .inl e
  ·exact .inr ⟨e, by omega⟩
set_option maxRecDepth 100000 in
set_option maxHeartbeats 4000000 in
theorem drop_ref {w : World} {S : Nat → Prop} {y g : Nat} {q l : Int} {F : Files} (h : RefIs w S y g q l F) (nm : List UInt8) (f : File) (hat : atF F nm = some f) :
  Calls Tryz.prog 95 #[.pointer (some ⟨y, 0, none⟩), .string (str nm)] w fun e w' => e = .returned (.tuple #[]) ∧ ∃ S' g', RefIs w' S' y g' q l (delF nm F) ∧ RStep w w' S S' y g ∧ (g' = g ∨ w.heap.size ≤ g') := by
 have hcc := at_ref h nm
 obtain ⟨k, hk, h2, h3⟩ : ∃ (k : Nat) (hk : k < F.length), idxI F nm = (k : Int) ∧ F[k] = (nm, f) := by
  rcases idx_cases F nm with ⟨h1, -⟩ | ⟨k, hk, f', h1, h2, h3⟩
  ·rw [hat] at h1; cases h1
  ·rw [hat] at h1; cases h1; exact ⟨k, hk, h2, h3⟩
 rw [h2] at hcc
 have hdel := delF_at h.up hk
 rw [h3] at hdel
 have Hdel := hid hdel
 have H := hid h
 have hfew := h.few
 obtain ⟨A0, c0, c2, hc, hcm, hcell⟩ := h.reads
 obtain ⟨gb, -, -, rfl, -⟩ := hcell k hk
 obtain ⟨N, hN⟩ : ∃ N, N = F.length := ⟨_, rfl⟩
 rw [← hN] at c2 hfew hc
 have HN := hid hN
 have C2 := hid c2
 have hkN : k < N := by omega
 clear h hat h2 h3 hdel hcell hN c2 hk
 have hk1 : (k : Int) ≤ (c0 : Int) := by omega
 have hk2 : (k : Int) + 1 ≤ (N : Int) := by omega
 have hk3 : (0 : Int) ≤ (k : Int) := by omega
 have HP : Hid (∀ W, Ext w W → ∃ cs, Rows RFile W (Imm w S) (F.take k) cs ∧ RV W (some ⟨gb, 0, none⟩) cs) := fun W hE => by
  obtain ⟨A0', c0', gb', e1, e2, e3⟩ := H.out.part (W := W) hE 0 k (by omega) (by have := HN.out; omega)
  have hpos : 0 < F.length := by have := HN.out; omega
  rw [C2.out] at e1
  simp only [Option.some.injEq, Value.slice.injEq] at e1
  have e4 := e2 hpos
  rw [← e1.1] at e4
  simp only [Option.some.injEq, Addr.mk.injEq, and_true] at e4
  have e5 := e3 hpos
  rw [← e4, Nat.zero_mul, List.drop_zero] at e5
  exact e5
 obtain ⟨A2, hA2⟩ : ∃ A2, A2 = if c0 = k + 1 then some (⟨gb, 0, none⟩ : Addr) else some ⟨gb, (k + 1) * 3, none⟩ := ⟨_, rfl⟩
 have HP2 : Hid (∀ W, Ext w W → ∃ cs, Rows RFile W (Imm w S) (F.drop (k + 1)) cs ∧ RV W A2 cs) := fun W hE => by
  obtain ⟨A0', c0', gb', e1, e2, e3⟩ := H.out.part (W := W) hE (k + 1) N (by omega) (by have := HN.out; omega)
  have hpos : 0 < F.length := by have := HN.out; omega
  rw [C2.out] at e1
  simp only [Option.some.injEq, Value.slice.injEq] at e1
  have e4 := e2 hpos
  rw [← e1.1] at e4
  simp only [Option.some.injEq, Addr.mk.injEq, and_true] at e4
  have e5 := e3 hpos
  rw [← e4, List.take_of_length_le (by have := HN.out; omega)] at e5
  rw [hA2]
  by_cases hck : c0 = k + 1
  ·rw [if_pos hck]
   have : F.drop (k + 1) = [] := List.drop_eq_nil_of_le (by have := HN.out; omega)
   rw [this]
   exact ⟨[], rfl, .inl rfl⟩
  ·rw [if_neg hck]; exact e5
 have HL2 := hid (show N - (k + 1) = (F.drop (k + 1)).length by rw [List.length_drop, ← HN.out])
 have HA2 := hid hA2
 have HFZ : Hid (∀ wr : World, Ext w wr → wr.frozen? ⟨y, 2, none⟩ = false) := fun wr hb => (World.frozen?_of_block (a := ⟨y, 2, none⟩) (hb.block y H.out.lt)).trans (H.out.free 2)
 clear hA2
 go_enter Tryz.func95, Tryz.ntmps95
 go_wp2_with fail
 refine hcc.mono ?_
 rintro e w' ⟨rfl, rfl⟩
 clear hcc
 go_wp2_with fail
 apply wp_drawn_late 16 0 [isV _, ownsE S w, isV _, isV _, isV _, isV _, isV _, isV _, ownsK S w (F.take k), isV _, isV _, isV _, isV _, isV _, isV (.int .i64 ((k : Int) + 1)), isV (.slice A2 (N - (k + 1)) (c0 - (k + 1)))] (by decide) (by kernel_rfl)
 ·kernel_rfl
 ·kernel_rfl
 ·refine ⟨?r1s0, ?r1s1, ?r1s2, ?r1s3, ?r1s4, ?r1s5, ?r1s6, ?r1s7, ?r1s8, ?r1s9, ?r1s10, ?r1s11, ?r1s12, ?r1s13, ?r1s14, ?r1s15, trivial⟩
  case r1s0 =>
   intro v W hE hd; simp only [Region.wanted, ↓reduceIte]; (try simp [deps, waitsOn, Region.binds, knowing, isV, ownsV, anyV] at hd); simp only [putAll, List.take_succ_cons, List.take_zero, List.drop_succ_cons, List.drop_zero, Act.put, List.setIfInBounds_toArray, List.set_cons_zero, List.set_cons_succ, Nat.zero_add, Nat.reduceAdd]; go_simp; exact ⟨Below.refl _ _, rfl⟩
  case r1s1 =>
   intro v W hE hd; simp only [Region.wanted, ↓reduceIte]; (try simp [deps, waitsOn, Region.binds, knowing, isV, ownsV, anyV] at hd); simp only [putAll, List.take_succ_cons, List.take_zero, List.drop_succ_cons, List.drop_zero, Act.put, List.setIfInBounds_toArray, List.set_cons_zero, List.set_cons_succ, Nat.zero_add, Nat.reduceAdd]
   go_simp
   exact ⟨(Below.refl _ _).alloc (Nat.le_refl _) _, _, rfl, OwnK.empty W _ hE.size, by have := hE.size; simp; omega⟩
  case r1s2 | r1s3 | r1s4 =>
   intro v W hE hd; simp only [Region.wanted, ↓reduceIte]; (try simp [deps, waitsOn, Region.binds, knowing, isV, ownsV, anyV] at hd); simp only [putAll, List.take_succ_cons, List.take_zero, List.drop_succ_cons, List.drop_zero, Act.put, List.setIfInBounds_toArray, List.set_cons_zero, List.set_cons_succ, Nat.zero_add, Nat.reduceAdd]; go_simp; exact ⟨Below.refl _ _, rfl⟩
  case r1s5 =>
   intro v W hE hd; simp only [Region.wanted, ↓reduceIte]; (try simp [deps, waitsOn, Region.binds, knowing, isV, ownsV, anyV] at hd); simp only [putAll, List.take_succ_cons, List.take_zero, List.drop_succ_cons, List.drop_zero, Act.put, List.setIfInBounds_toArray, List.set_cons_zero, List.set_cons_succ, Nat.zero_add, Nat.reduceAdd]
   have e1 := cell_below hE C2.out
   go_simp
   exact ⟨Below.refl _ _, rfl⟩
  case r1s6 =>
   intro v W hE hd; simp only [Region.wanted, ↓reduceIte]; (try simp [deps, waitsOn, Region.binds, knowing, isV, ownsV, anyV] at hd); simp only [putAll, List.take_succ_cons, List.take_zero, List.drop_succ_cons, List.drop_zero, Act.put, List.setIfInBounds_toArray, List.set_cons_zero, List.set_cons_succ, Nat.zero_add, Nat.reduceAdd]; go_simp; exact ⟨Below.refl _ _, rfl⟩
  case r1s7 =>
   intro v W hE hd; simp only [Region.wanted, ↓reduceIte]; (try simp [deps, waitsOn, Region.binds, knowing, isV, ownsV, anyV] at hd); simp only [putAll, List.take_succ_cons, List.take_zero, List.drop_succ_cons, List.drop_zero, Act.put, List.setIfInBounds_toArray, List.set_cons_zero, List.set_cons_succ, Nat.zero_add, Nat.reduceAdd]
   go_simp
   exact ⟨Below.refl _ _, rfl⟩
  case r1s8 =>
   intro v W hE hd; simp only [Region.wanted, ↓reduceIte]; (try simp [deps, waitsOn, Region.binds, knowing, isV, ownsV, anyV] at hd); simp only [putAll, List.take_succ_cons, List.take_zero, List.drop_succ_cons, List.drop_zero, Act.put, List.setIfInBounds_toArray, List.set_cons_zero, List.set_cons_succ, Nat.zero_add, Nat.reduceAdd]
   obtain ⟨⟨ge, e1, h1, h2⟩, e7⟩ := hd
   rw [e1] at h1
   obtain ⟨v', w', hrun, hO', hE'⟩ := run_app_fullK (P := Tryz.prog) finfo 77 ge 0 rfl h1 h2 (fun k hk => Nat.lt_of_lt_of_le hk.1 h2) (some ⟨gb, 0, none⟩) c0 k (F.take k) (by rw [List.length_take]; have := HN.out; omega) (HP.out W hE) (by omega) (by omega)
   refine step_app (.tmp 9) (.tmp 15) rfl e1 e7 hrun ?_
   exact ⟨_, rfl, hE', hO', Nat.le_trans h2 hE'.size⟩
  case r1s9 | r1s10 | r1s11 =>
   intro v W hE hd; simp only [Region.wanted, ↓reduceIte]; (try simp [deps, waitsOn, Region.binds, knowing, isV, ownsV, anyV] at hd); simp only [putAll, List.take_succ_cons, List.take_zero, List.drop_succ_cons, List.drop_zero, Act.put, List.setIfInBounds_toArray, List.set_cons_zero, List.set_cons_succ, Nat.zero_add, Nat.reduceAdd]; go_simp; exact ⟨Below.refl _ _, rfl⟩
  case r1s12 =>
   intro v W hE hd; simp only [Region.wanted, ↓reduceIte]; (try simp [deps, waitsOn, Region.binds, knowing, isV, ownsV, anyV] at hd); simp only [putAll, List.take_succ_cons, List.take_zero, List.drop_succ_cons, List.drop_zero, Act.put, List.setIfInBounds_toArray, List.set_cons_zero, List.set_cons_succ, Nat.zero_add, Nat.reduceAdd]
   have e1 := cell_below hE C2.out
   go_simp
   exact ⟨Below.refl _ _, rfl⟩
  case r1s13 =>
   intro v W hE hd; simp only [Region.wanted, ↓reduceIte]; (try simp [deps, waitsOn, Region.binds, knowing, isV, ownsV, anyV] at hd); simp only [putAll, List.take_succ_cons, List.take_zero, List.drop_succ_cons, List.drop_zero, Act.put, List.setIfInBounds_toArray, List.set_cons_zero, List.set_cons_succ, Nat.zero_add, Nat.reduceAdd]; go_simp; exact ⟨Below.refl _ _, rfl⟩
  case r1s14 =>
   intro v W hE hd; simp only [Region.wanted, ↓reduceIte]; (try simp [deps, waitsOn, Region.binds, knowing, isV, ownsV, anyV] at hd); simp only [putAll, List.take_succ_cons, List.take_zero, List.drop_succ_cons, List.drop_zero, Act.put, List.setIfInBounds_toArray, List.set_cons_zero, List.set_cons_succ, Nat.zero_add, Nat.reduceAdd]
   have e1 := hid (show IntKind.i64.wrap ((k : Int) + 1) = (k : Int) + 1 by rw [IntKind.wrap_i64]; omega)
   go_simp
   rw [e1.out]
   exact ⟨Below.refl _ _, rfl⟩
  case r1s15 =>
   intro v W hE hd; simp only [Region.wanted, ↓reduceIte]; (try simp [deps, waitsOn, Region.binds, knowing, isV, ownsV, anyV] at hd); simp only [putAll, List.take_succ_cons, List.take_zero, List.drop_succ_cons, List.drop_zero, Act.put, List.setIfInBounds_toArray, List.set_cons_zero, List.set_cons_succ, Nat.zero_add, Nat.reduceAdd]
   have e1 : (0 : Int) ≤ (k : Int) + 1 := by omega
   have e2 : ((k : Int) + 1).toNat = k + 1 := by omega
   by_cases hck : c0 = k + 1
   ·go_simp
    exact ⟨Below.refl _ _, by rw [HA2.out, if_pos hck]; rfl⟩
   ·go_simp
    exact ⟨Below.refl _ _, by rw [HA2.out, if_neg hck]; rfl⟩
 ·rintro v W hE ⟨e0, -, -, -, -, -, -, -, e8, -, -, -, -, -, -, e15, -⟩
  have e0 := (show v 0 = _ from e0)
  have e8 := (show _ from e8)
  have e15 := (show v 15 = _ from e15)
  simp only [putAll, List.take_succ_cons, List.take_zero, List.drop_succ_cons, List.drop_zero, Act.put, List.setIfInBounds_toArray, List.set_cons_zero, List.set_cons_succ, Nat.zero_add, Nat.reduceAdd]
  rw [e0, e15]
  clear e0
  obtain ⟨hO8, hsz⟩ := e8
  have HO8 := hid hO8
  have HBW := hid hE
  have HP2W := hid (HP2.out W hE)
  clear e15 hO8 hE
  go_wp2_with (at_builtin; refine wpList_appK (w0 := w) (R := RFile) (K := Imm w S) (xs := F.take k) (base := w.heap.size) finfo rfl (.tmp 16) (.tmp 23) rfl rfl HO8 (fun k hk => hk.1) HBW hsz A2 (N - (k + 1)) (c0 - (k + 1)) (F.drop (k + 1)) rfl HL2 HP2W (by rw [List.length_take]; omega) (by rw [List.length_take]; omega) ?_; intro v2 W2 HA3 HB3 _; obtain ⟨A9, c9, cs9, rfl, -⟩ := HA3.out.read; obtain ⟨L, hL⟩ : ∃ L, L = (F.take k ++ F.drop (k + 1)).length := ⟨_, rfl⟩; rw [← hL] at HA3 ⊢; clear hL; have c2' := cell_below HB3.out C2.out; have hfz := HFZ.out _ HB3.out)
  rw [← Hdel.out] at HA3
  go_wp2
  go_end0
  exact ⟨rfl, ref_stored2 H.out (up_delF H.out.up nm) (ok_delF H.out.ok nm) (Nat.le_trans (length_delF_le nm F) H.out.few) HB3.out HA3.out (Nat.le_refl _)⟩
 ·rintro v W om hom hE ⟨-, -, -, -, -, -, -, -, e8, -, -, -, -, -, -, e15, -⟩ hold
  have e8 := (show _ from e8 (by decide))
  have e15 := (show v 15 = _ from e15 (by decide))
  obtain rfl := Option.some.inj hom
  clear hom hold
  simp only [putAll, List.take_succ_cons, List.take_zero, List.drop_succ_cons, List.drop_zero, Act.put, List.setIfInBounds_toArray, List.set_cons_zero, List.set_cons_succ, Nat.zero_add, Nat.reduceAdd]
  (try simp only [List.cons_append, List.nil_append, List.take_zero, List.take_succ_cons, List.drop_zero, List.drop_succ_cons])
  rw [e15]
  obtain ⟨hO8, hsz⟩ := e8
  have HO8 := hid hO8
  have HBW := hid hE
  have HP2W := hid (HP2.out W hE)
  clear e15 hO8 hE
  go_wp2_with (at_builtin; refine wpList_appK (w0 := w) (R := RFile) (K := Imm w S) (xs := F.take k) (base := w.heap.size) finfo rfl (.tmp 16) (.tmp 23) rfl rfl HO8 (fun k hk => hk.1) HBW hsz A2 (N - (k + 1)) (c0 - (k + 1)) (F.drop (k + 1)) rfl HL2 HP2W (by rw [List.length_take]; omega) (by rw [List.length_take]; omega) ?_; intro v2 W2 HA3 HB3 _; obtain ⟨A9, c9, cs9, rfl, -⟩ := HA3.out.read; obtain ⟨L, hL⟩ : ∃ L, L = (F.take k ++ F.drop (k + 1)).length := ⟨_, rfl⟩; rw [← hL] at HA3 ⊢; clear hL; have c2' := cell_below HB3.out C2.out; have hfz := HFZ.out _ HB3.out)
  rw [← Hdel.out] at HA3
  go_wp2
  go_end0
  exact ⟨rfl, ref_stored2 H.out (up_delF H.out.up nm) (ok_delF H.out.ok nm) (Nat.le_trans (length_delF_le nm F) H.out.few) HB3.out HA3.out (Nat.le_refl _)⟩
end Go.Proofs.YtakebdeldndaaaaGreatDoor
