/- Several texts of this claim's, one behind the other. -/
import Derived.Test.YtakebdeldndaaaaGreatDoorPjClone
import Derived.Test.YtakebdeldndaaaaGreatDoorFitB
import Derived.Test.YtakebdeldndaaaaGreatDoorFoy
import Derived.Test.YtakebdeldndaaaaGreatDoorQB0
import Derived.Test.YtakebdeldndaaaaGreatDoorFoz
/- proj.Set.Apply. -/
namespace Go.Proofs.YtakebdeldndaaaaGreatDoor
open Go Go.RowKit
set_option linter.unusedSimpArgs false
set_option linter.unusedVariables false
end Go.Proofs.YtakebdeldndaaaaGreatDoor
/- proj.Set.does, and Apply. -/
namespace Go.Proofs.YtakebdeldndaaaaGreatDoor
open Go Go.RowKit
set_option linter.unusedSimpArgs false
set_option linter.unusedVariables false
theorem view_get {L L' : List Pc} (h : viewP L' = viewP L) : L'.length = L.length ∧ ∀ i (hi : i < L'.length) (hi' : i < L.length), L'[i].d = L[i].d ∧ L'[i].D = L[i].D := by
 have hl : L'.length = L.length := by
  have := congrArg List.length h
  unfold viewP at this
  simpa using this
 refine ⟨hl, fun i hi hi' => ?_⟩
 have h1 : (viewP L')[i]'(by unfold viewP; simpa using hi) = (viewP L)[i]'(by unfold viewP; simpa using hi') := by simp only [h]
 unfold viewP at h1
 simp only [List.getElem_map, Prod.mk.injEq] at h1
 exact h1
end Go.Proofs.YtakebdeldndaaaaGreatDoor
/- proj.Set.Put. -/
namespace Go.Proofs.YtakebdeldndaaaaGreatDoor
open Go Go.RowKit
set_option linter.unusedSimpArgs false
set_option linter.unusedVariables false
def entB (p : Str × Int) : List UInt8 := encT p.1 ++ encB p.2
def rowB (D : Ents) : List UInt8 := D.flatMap entB
def stB (D : Ents) : List UInt8 := encB (D.length : Int) ++ rowB D
def setB (V : List (DefV × Ents)) : List UInt8 := V.flatMap fun x => stB x.2
theorem rowB_next {D : Ents} {k : Nat} (hk : k < D.length) : rowB (D.take (k + 1)) = rowB (D.take k) ++ (encT D[k].1 ++ encB D[k].2) := by
 unfold rowB
 rw [List.take_succ_eq_append_getElem hk, List.flatMap_append]
 simp [entB]
theorem setB_next {V : List (DefV × Ents)} {k : Nat} (hk : k < V.length) : setB (V.take (k + 1)) = setB (V.take k) ++ stB V[k].2 := by
 unfold setB
 rw [List.take_succ_eq_append_getElem hk, List.flatMap_append]
 simp
structure RowFit (D : Ents) : Prop where
 len : D.length ≤ 20000
 key : ∀ p ∈ D, p.1.length ≤ 2001
 num : ∀ p ∈ D, I64 p.2
theorem entB_len {p : Str × Int} (h1 : p.1.length ≤ 2001) (h2 : I64 p.2) : (entB p).length ≤ 2031 := by
 have e1 := encT_len (s := p.1) (by omega)
 have e2 := encB_len (x := p.2) h2
 unfold entB
 rw [List.length_append]; omega
theorem RowFit.row {D : Ents} (h : RowFit D) (k : Nat) : (rowB (D.take k)).length ≤ 2031 * 20000 := by
 have := flat_le (f := entB) (N := 2031) (D.take k) fun p hp => entB_len (h.key p (List.mem_of_mem_take hp)) (h.num p (List.mem_of_mem_take hp))
 have h1 := h.len
 rw [List.length_take] at this
 unfold rowB
 have : 2031 * min k D.length ≤ 2031 * 20000 := Nat.mul_le_mul_left _ (by omega)
 omega
theorem RowFit.st {D : Ents} (h : RowFit D) : (stB D).length ≤ 2031 * 20000 + 10 := by
 have h1 := h.row D.length
 rw [List.take_length] at h1
 have h2 := h.len
 have := encB_len (x := (D.length : Int)) (by omega)
 unfold stB
 rw [List.length_append]; omega
structure PutFit (V : List (DefV × Ents)) : Prop where
 few : V.length ≤ 4
 row : ∀ x ∈ V, RowFit x.2
theorem PutFit.len {V : List (DefV × Ents)} (h : PutFit V) (k : Nat) : (setB (V.take k)).length ≤ (2031 * 20000 + 10) * 4 := by
 have := flat_le (f := fun x : DefV × Ents => stB x.2) (N := 2031 * 20000 + 10) (V.take k) fun x hx => (h.row x (List.mem_of_mem_take hx)).st
 have h1 := h.few
 rw [List.length_take] at this
 have : (2031 * 20000 + 10) * min k V.length ≤ (2031 * 20000 + 10) * 4 := Nat.mul_le_mul_left _ (by omega)
 unfold setB
 omega
def EntBox (bx : Nat) (k : Str) (x : Int) (w : World) : Prop := w.heap[bx]? = some (.cells #[.string (str k), .int .i64 x] 150)
theorem EntBox.cells {bx : Nat} {k : Str} {x : Int} {w : World} (h : EntBox bx k x w) : w.cell? ⟨bx, 0, none⟩ = some (.string (str k)) ∧ w.cell? ⟨bx, 1, none⟩ = some (.int .i64 x) := by
 constructor <;> · rw [cell_of_row _ _ _ _ _ _ h]; rfl
theorem EntBox.ext {bx : Nat} {k : Str} {x : Int} {w w' : World} (h : EntBox bx k x w) (hE : Ext w w') : EntBox bx k x w' := (hE.block bx (Array.getElem?_eq_some_iff.1 h).1).trans h
structure PutIs (w : World) (bs : List UInt8) (e : Ending) (w' : World) : Prop where
 ext : Ext w w'
 ex : ∃ v, e = .returned v ∧ OB w' w.heap.size v bs
set_option maxRecDepth 100000 in
set_option maxHeartbeats 4000000 in
theorem setPut_at {w : World} {S : Nat → Prop} {p : Nat} {L : List Pc} (h : SetIs w S p L) (hf : PutFit (viewP L)) :
  Calls Tryz.prog 52 #[.pointer (some ⟨p, 0, none⟩)] w fun e w' => PutIs w (setB (viewP L)) e w' := by
 obtain ⟨A, c, hc, hrow⟩ := h.row
 have c0 : w.cell? ⟨p, 0, none⟩ = some (.slice A L.length c) := by rw [cell_of_row _ _ _ _ _ _ hc]; rfl
 have hnc := hrow.2.1
 have hcm := hrow.2.2.1
 have hl : L.length ≤ 4 := by have := hf.few; unfold viewP at this; rwa [List.length_map] at this
 have H := hid h; have Hf := hid hf
 have HRow := hid (show SlR Rep.ptr w (· < w.heap.size) A L.length c (L.map (·.s)) from hrow.mono fun k hk => hk.1)
 clear h hf hc hrow
 generalize hn : L.length = n at *
 have Hn := hid hn
 clear hn
 go_enter Tryz.func52, Tryz.ntmps52
 go_wp2_with fail
 clear c0
 go_loopw [3, 14] (fun u i wr => ∃ k : Nat, k ≤ n ∧ i = .int .i64 (k : Int) ∧ Hid (OB wr w.heap.size u (setB ((viewP L).take k))) ∧ Hid (Ext w wr)) (fun _ i _ => n - (intOf i).toNat)
 case atStart => exact ⟨0, by omega, rfl, hid (World.ownsRow_nil w w.heap.size 5 1), hid (Below.refl _ _)⟩
 case round =>
  obtain ⟨k, hk, rfl, HO, HE⟩ := hrel
  by_cases hlt : k < n
  ·have hkx : k < L.length := by have := Hn.out; omega
   have hlt' : (k : Int) < (n : Int) := by omega
   have hk00 : ¬ ((k : Int) < 0) := by omega
   have hk0 : (0 : Int) ≤ (k : Int) := by omega
   obtain ⟨b, o, rfl, -, f0⟩ := ptr_at (HRow.out.grow HE.out) k (by rw [List.length_map]; exact hkx)
   rw [List.getElem_map] at f0
   have hx := (H.out.ext HE.out).pcs.each _ (List.getElem_mem hkx)
   have hvl : k < (viewP L).length := by unfold viewP; rw [List.length_map]; exact hkx
   have hvk : (viewP L)[k] = (L[k].d, L[k].D) := by simp only [viewP, List.getElem_map]
   have hfr := Hf.out.row _ (List.getElem_mem hvl)
   have Hnx := hid (setB_next hvl)
   have Hlen := hid (Hf.out.len k)
   rw [hvk] at hfr
   have Hvk := hid (show setB ((viewP L).take (k + 1)) = setB ((viewP L).take k) ++ stB L[k].D by rw [Hnx.out, hvk])
   have hcc := entries_at hx (by have := hfr.len; dsimp only at this; omega)
   clear hvk hx hvl Hnx
   generalize L[k] = x at *
   obtain ⟨b1, hb1⟩ : ∃ z, z = setB ((viewP L).take (k + 1)) := ⟨_, rfl⟩
   rw [← hb1] at Hvk
   have Hb1 := hid hb1
   clear hb1
   generalize setB ((viewP L).take k) = b0 at *
   generalize hDD : x.D = D at *
   dsimp only at hfr
   have Hfr := hid hfr
   clear hfr hDD
   go_wp2_with fail
   refine hcc.mono ?_
   clear hcc f0
   rintro e w1 ⟨v, rfl, hO1, hE1⟩
   obtain ⟨Aa, ca, rfl, hRa⟩ := ownK_out (S := fun _ => False) hO1 (fun k hk => hk.elim) (fun k hk => hk.elim)
   have HRa := hid (show SlR REnt w1 (· < w1.heap.size) Aa D.length ca D from hRa.mono fun k hk => hk.1)
   have HO1 := hid (OB.below HO.out hE1); have HE1 := hid (HE.out.trans' hE1)
   have hlD := Hfr.out.len
   have hnD := hRa.2.1
   have hmD := hRa.2.2.1
   clear hO1 hRa hE1 HO
   obtain ⟨Ab, nb, cb, rfl, hbn, hbc, hbr⟩ := HO1.out.rd
   have hput := numPut_at hbn hbc hbr (by have := Hlen.out; omega) (D.length : Int) (by unfold I64; omega)
   have Hel := hid (encB_len (x := (D.length : Int)) (by omega))
   have Hst := hid (show b0 ++ encB (D.length : Int) ++ rowB D = b1 by rw [Hvk.out, List.append_assoc]; rfl)
   clear hbn hbc hbr
   generalize hnn : D.length = nD at *
   have HnD := hid hnn
   clear hnn
   go_wp2_with fail
   refine hput.mono ?_
   clear hput
   rintro e w2 ⟨v, rfl, hO2, hE2⟩
   have HO2 := hid (show OB w2 w.heap.size v (b0 ++ encB (nD : Int) ++ rowB (D.take 0)) from by
    have := OB.base hO2 (base' := w.heap.size) HE1.out.size
    rw [show rowB (D.take 0) = [] from rfl, List.append_nil]; exact this)
   have HE2 := hid (HE1.out.trans' hE2)
   have HRb := hid (HRa.out.grow hE2)
   clear hO2 hE2
   go_wp2_with fail
   go_loopw [3, 26] (fun u i wr => ∃ j : Nat, j ≤ nD ∧ i = .int .i64 (j : Int) ∧ Hid (OB wr w.heap.size u (b0 ++ encB (nD : Int) ++ rowB (D.take j))) ∧ Hid (Ext w wr) ∧ Hid (SlR REnt wr (· < wr.heap.size) Aa nD ca D)) (fun _ i _ => nD - (intOf i).toNat)
   case atStart => exact ⟨0, by omega, rfl, HO2, HE2, HRb⟩
   case round =>
    obtain ⟨j, hj, rfl, HO, HEj, HRj⟩ := hrel
    by_cases hjn : j < nD
    ·have hjx : j < D.length := by have := HnD.out; omega
     have hjn' : (j : Int) < (nD : Int) := by omega
     have hj00 : ¬ ((j : Int) < 0) := by omega
     have hj0 : (0 : Int) ≤ (j : Int) := by omega
     obtain ⟨b', o', rfl, -, g0, g1, -⟩ := field_at HRj.out j hjx
     have hkey := Hfr.out.key _ (List.getElem_mem hjx)
     have hnum := Hfr.out.num _ (List.getElem_mem hjx)
     have Hnx := hid (rowB_next hjx)
     have Hrl := hid (Hfr.out.row j)
     generalize D[j] = y at *
     obtain ⟨key, num⟩ := y
     dsimp only at g0 g1 hkey hnum
     have Hbx := hid (show EntBox wr.heap.size key num (wr.alloc (.cells #[.string (str key), .int .i64 num] 150)) from heap_alloc_last _ _)
     have hE3 := ext_alloc wr (.cells #[.string (str key), .int .i64 num] 150)
     have HO3 := hid (OB.below HO.out hE3)
     have HE3 := hid (HEj.out.trans' hE3)
     have HR3 := hid (HRj.out.grow hE3)
     have Hkey := hid hkey; have Hnum := hid hnum
     obtain ⟨pre2, hp2⟩ : ∃ z, z = b0 ++ encB (nD : Int) ++ rowB (D.take j) ++ encT key := ⟨_, rfl⟩
     have Hpre := hid (show pre2 ++ encB num = b0 ++ encB (nD : Int) ++ rowB (D.take (j + 1)) by rw [Hnx.out, hp2]; simp only [List.append_assoc])
     have Hp2 := hid hp2
     clear hp2
     have Hpl := hid (show (b0 ++ encB (nD : Int) ++ rowB (D.take j)).length ≤ 900000000 by rw [List.length_append, List.length_append]; have := Hel.out; have := Hlen.out; have := Hrl.out; omega)
     clear hE3 hkey hnum Hnx Hrl HO
     obtain ⟨pre1, hp1⟩ : ∃ z, z = b0 ++ encB (nD : Int) ++ rowB (D.take (j + 1)) := ⟨_, rfl⟩
     rw [← hp1] at Hpre
     have Hp1 := hid hp1
     clear hp1
     generalize b0 ++ encB (nD : Int) ++ rowB (D.take j) = pre at *
     go_wp2_with fail
     clear g0 g1
     generalize hbx : wr.heap.size = bx at *
     clear hbx
     generalize wr.alloc (.cells #[.string (str key), .int .i64 num] 150) = w3 at *
     obtain ⟨Ac, nc', cc, rfl, hcn, hcc', hcr⟩ := HO3.out.rd
     have HN3 := hid (And.intro hcn (And.intro hcc' hcr))
     clear hcn hcc' hcr
     apply wp_drawn_last 7 [isV _, isV _, isV _, obX w.heap.size pre2, isV _, isV _, obX w.heap.size pre1] (by decide) (by kernel_rfl)
     ·kernel_rfl
     ·kernel_rfl
     ·refine ⟨?pps0, ?pps1, ?pps2, ?pps3, ?pps4, ?pps5, ?pps6, trivial⟩
      case pps0 | pps1 =>
       intro v W hE hd; simp only [Region.wanted, ↓reduceIte]; (try simp [deps, waitsOn, Region.binds, knowing, isV, ownsV, anyV] at hd); simp only [putAll, List.take_succ_cons, List.take_zero, List.drop_succ_cons, List.drop_zero, Act.put, List.setIfInBounds_toArray, List.set_cons_zero, List.set_cons_succ, Nat.zero_add, Nat.reduceAdd]; go_simp; exact ⟨Below.refl _ _, rfl⟩
      case pps2 =>
       intro v W hE hd; simp only [Region.wanted, ↓reduceIte]; (try simp [deps, waitsOn, Region.binds, knowing, isV, ownsV, anyV] at hd); simp only [putAll, List.take_succ_cons, List.take_zero, List.drop_succ_cons, List.drop_zero, Act.put, List.setIfInBounds_toArray, List.set_cons_zero, List.set_cons_succ, Nat.zero_add, Nat.reduceAdd]
       obtain ⟨x0, x1⟩ := (Hbx.out.ext hE).cells
       go_simp
       exact ⟨Below.refl _ _, rfl⟩
      case pps3 =>
       intro v W hE hd; simp only [Region.wanted, ↓reduceIte]; (try simp [deps, waitsOn, Region.binds, knowing, isV, ownsV, anyV] at hd); simp only [putAll, List.take_succ_cons, List.take_zero, List.drop_succ_cons, List.drop_zero, Act.put, List.setIfInBounds_toArray, List.set_cons_zero, List.set_cons_succ, Nat.zero_add, Nat.reduceAdd]
       have hcc := numPutText_at HN3.out.1 HN3.out.2.1 (RB.below HN3.out.2.2 hE) (by have := Hpl.out; have := HN3.out.1; omega) key (by have := Hkey.out; omega)
       go_simp
       refine hcc.mono ?_
       clear hcc
       rintro e w' ⟨v', rfl, hO, hE2⟩
       have HOo := hid hO; have HEe := hid hE2
       clear hO hE2
       go_simp
       exact ⟨HEe.out, OB.base (by rw [Hp2.out]; exact HOo.out) (by have := hE.size; have := HE3.out.size; omega)⟩
      case pps4 =>
       intro v W hE hd; simp only [Region.wanted, ↓reduceIte]; (try simp [deps, waitsOn, Region.binds, knowing, isV, ownsV, anyV] at hd); simp only [putAll, List.take_succ_cons, List.take_zero, List.drop_succ_cons, List.drop_zero, Act.put, List.setIfInBounds_toArray, List.set_cons_zero, List.set_cons_succ, Nat.zero_add, Nat.reduceAdd]; go_simp; exact ⟨Below.refl _ _, rfl⟩
      case pps5 =>
       intro v W hE hd; simp only [Region.wanted, ↓reduceIte]; (try simp [deps, waitsOn, Region.binds, knowing, isV, ownsV, anyV] at hd); simp only [putAll, List.take_succ_cons, List.take_zero, List.drop_succ_cons, List.drop_zero, Act.put, List.setIfInBounds_toArray, List.set_cons_zero, List.set_cons_succ, Nat.zero_add, Nat.reduceAdd]
       obtain ⟨x0, x1⟩ := (Hbx.out.ext hE).cells
       go_simp
       exact ⟨Below.refl _ _, rfl⟩
      case pps6 =>
       intro v W hE hd; simp only [Region.wanted, ↓reduceIte]; (try simp [deps, waitsOn, Region.binds, knowing, isV, ownsV, anyV] at hd); simp only [putAll, List.take_succ_cons, List.take_zero, List.drop_succ_cons, List.drop_zero, Act.put, List.setIfInBounds_toArray, List.set_cons_zero, List.set_cons_succ, Nat.zero_add, Nat.reduceAdd]
       obtain ⟨h3, h5, -⟩ := hd
       obtain ⟨A', n', c', h3e, hn', hc', hR'⟩ := OB.rd (show OB W w.heap.size (v 3) pre2 from h3)
       rw [h3e, h5]
       have hel := encT_len (s := key) (by have := Hkey.out; omega)
       have hcc := numPut_at hn' hc' hR' (by have h1 := congrArg List.length Hp2.out; rw [List.length_append] at h1; have := Hpl.out; have := Hkey.out; omega) num Hnum.out
       clear hR' h3 hn' hel hc'
       go_simp
       refine hcc.mono ?_
       clear hcc
       rintro e w' ⟨v', rfl, hO, hE2⟩
       have HOo := hid hO; have HEe := hid hE2
       clear hO hE2
       go_simp
       exact ⟨HEe.out, OB.base (by rw [← Hpre.out]; exact HOo.out) (by have := hE.size; have := HE3.out.size; omega)⟩
     ·rintro v W9 hE ⟨-, -, -, -, -, -, e6, -⟩
      have e6 := (show _ from e6)
      simp only [putAll, List.take_succ_cons, List.take_zero, List.drop_succ_cons, List.drop_zero, Act.put, List.setIfInBounds_toArray, List.set_cons_zero, List.set_cons_succ, Nat.zero_add, Nat.reduceAdd]
      have HOf := hid (show OB W9 w.heap.size (v 6) pre1 from e6)
      have HEf := hid (HE3.out.trans' hE)
      have HRf := hid (HR3.out.grow hE)
      clear e6 hE
      go_wp2_with fail
      go_roundw
      case rel => exact ⟨j + 1, by omega, by go_num, by rw [← Hp1.out]; exact HOf, HEf, HRf⟩
      case measure => simp [intOf]; omega
    ·obtain rfl : j = nD := by omega
     have hjn' : ¬ ((j : Int) < (j : Int)) := by omega
     have HOz := hid (show OB wr w.heap.size u3 b1 from by
      have := HO.out
      rw [List.take_of_length_le (by have := HnD.out; omega), Hst.out] at this
      exact this)
     go_wp2_with fail
     go_roundw
     case rel => exact ⟨k + 1, by omega, by go_num, by rw [← Hb1.out]; exact HOz, HEj⟩
     case measure => simp [intOf]; omega
  ·obtain rfl : k = n := by omega
   have hlt' : ¬ ((k : Int) < (k : Int)) := by omega
   have HOz := hid (show OB wr w.heap.size u3 (setB (viewP L)) from by
    have := HO.out
    rw [List.take_of_length_le (by unfold viewP; rw [List.length_map]; have := Hn.out; omega)] at this
    exact this)
   go_wp2
   go_ret
   exact ⟨HE.out, _, rfl, HOz.out⟩
end Go.Proofs.YtakebdeldndaaaaGreatDoor
/- proj.Set.Entries, Many; the laws' recs. -/
namespace Go.Proofs.YtakebdeldndaaaaGreatDoor
open Go Go.RowKit
set_option linter.unusedSimpArgs false
set_option linter.unusedVariables false
set_option maxRecDepth 100000 in
theorem setMany_at {w : World} {S : Nat → Prop} {p : Nat} {L : List Pc} (h : SetIs w S p L) :
  Calls Tryz.prog 33 #[.pointer (some ⟨p, 0, none⟩)] w fun e w' => e = .returned (.int .i64 (L.length : Int)) ∧ w' = w := by
 obtain ⟨A, c, hc, hrow⟩ := h.row
 have c0 : w.cell? ⟨p, 0, none⟩ = some (.slice A L.length c) := by rw [cell_of_row _ _ _ _ _ _ hc]; rfl
 clear h hc hrow
 go_enter Tryz.func33, Tryz.ntmps33
 go_wp2
 go_ret
 exact ⟨rfl, rfl⟩
end Go.Proofs.YtakebdeldndaaaaGreatDoor
/- Two sets side by side. -/
namespace Go.Proofs.YtakebdeldndaaaaGreatDoor
open Go Go.RowKit
set_option linter.unusedSimpArgs false
set_option linter.unusedVariables false
section
variable {n0 : Nat} {w w' : World} {S S' : Nat → Prop} {p q : Nat} {L M : List Pc}
end
theorem viewP_len (L : List Pc) : (viewP L).length = L.length := List.length_map ..
end Go.Proofs.YtakebdeldndaaaaGreatDoor
/- How much states may hold, by the events that ran. Plain. -/
namespace Go.Proofs.YtakebdeldndaaaaGreatDoor
open Go
set_option linter.unusedVariables false
structure KeyB (N : Nat) (D : Ents) : Prop where
 len : D.length ≤ N
 key : ∀ p ∈ D, p.1.length ≤ 2001
structure FarV (B : Int) (N n : Nat) (V : List (DefV × Ents)) : Prop where
 few : V.length ≤ 4
 key : ∀ x ∈ V, KeyB N x.2
 fit : ∀ x ∈ V, FitB B x.2
 lo : 1125899906842624 ≤ B
 hi : B + 1000 * (n : Int) ≤ 2305843009213693952
 lim : N + 1000 * n ≤ 900000
theorem farV_new {ds : List DefV} (h : ds.length ≤ 4) : FarV 1125899906842624 0 400 (ds.map fun d => (d, [])) := by
 refine ⟨by rw [List.length_map]; exact h, fun x hx => ?_, fun x hx => ?_, by decide, by decide, by decide⟩
 ·obtain ⟨d, -, rfl⟩ := List.mem_map.1 hx
  exact ⟨Nat.le_refl _, fun p hp => by simp at hp⟩
 ·obtain ⟨d, -, rfl⟩ := List.mem_map.1 hx
  exact fun p hp => by simp at hp
theorem FarV.put {B : Int} {N n : Nat} {V : List (DefV × Ents)} (h : FarV B N n V) (hN : N ≤ 20000) : PutFit V :=
 ⟨h.few, fun x hx => ⟨Nat.le_trans (h.key x hx).len hN, (h.key x hx).key, fun p hp => by have := h.fit x hx p hp; have := h.hi; unfold I64; omega⟩⟩
end Go.Proofs.YtakebdeldndaaaaGreatDoor
