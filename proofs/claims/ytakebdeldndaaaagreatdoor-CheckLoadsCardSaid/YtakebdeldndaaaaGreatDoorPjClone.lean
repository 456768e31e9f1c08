/- proj.Set.Clone. -/
import Derived.Test.YtakebdeldndaaaaGreatDoorPjNew
import Derived.Test.YtakebdeldndaaaaGreatDoorNorms
namespace Go.Proofs.YtakebdeldndaaaaGreatDoor
open Go Go.RowKit
set_option linter.unusedSimpArgs false
set_option linter.unusedVariables false
theorem rows_ptr {w w' : World} {K K' : Nat → Prop} : ∀ {xs : List Nat} {cs : List Value}, Rows Rep.ptr w K xs cs → Rows Rep.ptr w' K' xs cs
 | [], _, h => h
 | x :: xs, _, ⟨c, r, e, hc, hr⟩ => ⟨c, r, e, hc, rows_ptr hr⟩
theorem run_appP {w : World} {base : Nat} {v : Value} {xs : List Nat} (ty : TypeId) (hown : OwnK Rep.ptr 134 (fun _ => False) w base v xs) (hbase : base ≤ w.heap.size) (a : Addr) (s : Nat) (hr : RV w (some a) [.pointer (some ⟨s, 0, none⟩)]) (hmax : xs.length ≤ 900000) :
  ∃ v' w', (Builtin.append_ #[124, 124] ty #[v, .slice (some a) 1 1]).run Tryz.prog w = .ok v' w' ∧ OwnK Rep.ptr 134 (fun _ => False) w' base v' (xs ++ [s]) ∧ w.grownBy w' v.ownBlock ∧ (v'.ownBlock = v.ownBlock ∨ v'.ownBlock = some w.heap.size) := by
 obtain ⟨cs, ho, hrow⟩ := hown
 have hx : OwnX Rep.ptr 134 0 w base v xs := ⟨cs, ho, rows_ptr hrow⟩
 obtain ⟨v', w', h1, ⟨cs2, ho2, hr2⟩, h3, h4⟩ := run_appX ptrinfo ty hx hbase a 1 1 [s] rfl ⟨_, Rows.single rfl, hr⟩ (by omega) (by decide)
 exact ⟨v', w', h1, ⟨cs2, ho2, rows_ptr hr2⟩, h3, h4⟩
structure ClSt (n0 nW : Nat) (S0 : Nat → Prop) (d : DefV) (D : Ents) (s m : Nat) (W : World) : Prop where
 lo : nW ≤ s ∧ nW ≤ m
 st : StIs W (fun k => S0 k ∨ n0 ≤ k) s m (kdVal d) d.q D
section
variable {n0 nW : Nat} {S0 : Nat → Prop} {d : DefV} {D : Ents} {s m p : Nat} {W W' : World}
theorem ClSt.ext (h : ClSt n0 nW S0 d D s m W) (hE : Ext W W') : ClSt n0 nW S0 d D s m W' := ⟨h.lo, h.st.ext hE⟩
theorem ClSt.kept (h : ClSt n0 nW S0 d D s m W) (hk : Kept2 p p W W') (hp : n0 ≤ p ∧ p < nW) : ClSt n0 nW S0 d D s m W' :=
 ⟨h.lo, h.st.kept hk (.inr hp.1) (.inr hp.1) (by have := h.lo; omega) (by have := h.lo; omega) (by have := h.lo; omega) (by have := h.lo; omega)⟩
theorem ClSt.grown {row : Option Nat} (h : ClSt n0 nW S0 d D s m W) (hg : W.grownBy W' row) (hr : ∀ k, row = some k → n0 ≤ k ∧ k < nW) : ClSt n0 nW S0 d D s m W' := by
 cases row with
 | none => exact h.ext ⟨hg.os, hg.tape, hg.output, hg.size, fun k hk => hg.block k hk (by simp)⟩
 | some g => exact h.kept (Kept2.of_grown hg (.inl rfl)) (hr g rfl)
end
def pCl (n0 nW : Nat) (S0 : Nat → Prop) (d : DefV) (D : Ents) : SPred := ⟨fun v W => ∃ s m, v = .pointer (some ⟨s, 0, none⟩) ∧ ClSt n0 nW S0 d D s m W, fun _ _ _ ⟨s, m, e, h⟩ hE => ⟨s, m, e, h.ext hE⟩⟩
def pBx (n0 nW : Nat) (S0 : Nat → Prop) (d : DefV) (D : Ents) : SPred := ⟨fun v W => ∃ b s m, v = .slice (some ⟨b, 0, none⟩) 1 1 ∧ nW ≤ b ∧ W.heap[b]? = some (.cells #[.pointer (some ⟨s, 0, none⟩)] 134) ∧ ClSt n0 nW S0 d D s m W,
 fun _ _ _ ⟨b, s, m, e, h0, h1, h⟩ hE => ⟨b, s, m, e, h0, (hE.block b (Array.getElem?_eq_some_iff.1 h1).1).trans h1, h.ext hE⟩⟩
def pAp (X : Nat → Prop) (n0 p : Nat) (V : List (DefV × Ents)) (L : List Pc) : SPred := ⟨fun v W => ∃ x, PreIs X n0 p V v (L ++ [x]) W, fun _ _ _ ⟨x, h⟩ hE => ⟨x, h.ext hE⟩⟩
structure CloneB (w : World) (nW : Nat) (W : World) : Prop where
 ext : Ext w W
 size : nW ≤ W.heap.size
structure ClonedIs (w : World) (S0 : Nat → Prop) (L0 : List Pc) (e : Ending) (w' : World) : Prop where
 ext : Ext w w'
 ex : ∃ p v L, e = .returned (.pointer (some ⟨p, 0, none⟩)) ∧ NewIs S0 w.heap.size p (viewP L0) v L w'
set_option maxRecDepth 100000 in
set_option maxHeartbeats 4000000 in
theorem setClone_at {w : World} {S0 : Nat → Prop} {p0 : Nat} {L0 : List Pc} (h : SetIs w S0 p0 L0) (hS0 : ∀ k, S0 k → k < w.heap.size) (hl : L0.length ≤ 1000) :
  Calls Tryz.prog 141 #[.pointer (some ⟨p0, 0, none⟩)] w fun e w' => ClonedIs w S0 L0 e w' := by
 obtain ⟨A, c, hc, hrow⟩ := h.row
 have Hpcs := hid h.pcs
 have Hrow := hid hrow
 have HS0 := hid hS0
 have hnc := hrow.2.1
 have hcm := hrow.2.2.1
 have HEa := hid (ext_alloc w (.cells #[.slice none 0 0] 126))
 have hcell : (w.alloc (.cells #[.slice none 0 0] 126)).cell? ⟨p0, 0, none⟩ = some (.slice A L0.length c) := cell_below HEa.out (by rw [cell_of_row _ _ _ _ _ _ hc]; rfl)
 have HI := hid (show NewIs S0 w.heap.size w.heap.size (viewP (L0.take 0)) (.slice none 0 0) [] (w.alloc (.cells #[.slice none 0 0] 126)) from
  ⟨heap_alloc_last _ _, OwnK.nil _ _, PcsIs.nil, rfl, ⟨fun k hk => (Blk.nil hk).elim, Nat.le_refl _⟩, HS0.out, Blk.nil, fun k hk => by cases hk⟩)
 clear h hc hrow hS0
 generalize hln : L0.length = n at *
 have hn := hid hln
 clear hln
 go_enter Tryz.func141, Tryz.ntmps141
 go_wp2_with fail
 clear hcell
 obtain ⟨p, hp⟩ : ∃ p, p = w.heap.size := ⟨_, rfl⟩
 have Hp := hid hp
 rw [← hp] at HI ⊢
 clear hp
 generalize w.alloc (.cells #[.slice none 0 0] 126) = w1 at *
 go_loopw [13] (fun i wr => ∃ k : Nat, k ≤ n ∧ i = .int .i64 (k : Int) ∧ Hid (∃ v L, NewIs S0 p p (viewP (L0.take k)) v L wr) ∧ Hid (Ext w wr)) (fun i _ => n - (intOf i).toNat)
 case atStart => exact ⟨0, by omega, rfl, ⟨_, _, HI.out⟩, HEa⟩
 case round =>
  obtain ⟨k, hk, rfl, HI', HE⟩ := hrel
  clear HI
  obtain ⟨u0, L, hI⟩ := HI'.out
  have HI := hid hI
  clear hI HI'
  by_cases hlt : k < n
  ·have hkx : k < L0.length := by have := hn.out; omega
   have hlt' : (k : Int) < (n : Int) := by omega
   have hk00 : ¬ ((k : Int) < 0) := by omega
   have hk0 : (0 : Int) ≤ (k : Int) := by omega
   obtain ⟨b, o, rfl, -, f0⟩ := ptr_at (Hrow.out.ext fun j hj => HE.out.block j hj.1) k (by rw [List.length_map]; exact hkx)
   rw [List.getElem_map] at f0
   have HX := hid (show ∀ W, Ext w W → StIs W (fun j => S0 j ∨ p ≤ j) L0[k].s L0[k].m (kdVal L0[k].d) L0[k].d.q L0[k].D from fun W hE => (Hpcs.out.each _ (List.getElem_mem hkx)).more hE (fun j hj => hj.imp id fun h => by have := Hp.out; omega) (.inl (Hpcs.out.each _ (List.getElem_mem hkx)).sIn) (.inl (Hpcs.out.each _ (List.getElem_mem hkx)).mIn))
   have HV := hid (show viewP (L0.take (k + 1)) = viewP (L0.take k) ++ [(L0[k].d, L0[k].D)] by unfold viewP; rw [List.take_succ_eq_append_getElem hkx, List.map_append]; rfl)
   have HXl := hid (show L0[k].s < p ∧ L0[k].m < p from by
    have h1 := (Hpcs.out.each _ (List.getElem_mem hkx)).lt
    have := Hp.out; omega)
   have Hnl := hid (show (L.map (·.s)).length ≤ 900000 from by
    have h1 := congrArg List.length HI.out.view
    unfold viewP at h1
    rw [List.length_map, List.length_map, List.length_take] at h1
    rw [List.length_map]; omega)
   generalize L0[k] = x0 at *
   generalize viewP (L0.take k) = V at *
   obtain ⟨s0, m0, d, D⟩ := x0
   dsimp only at HX HV HXl f0 ⊢
   have Hown := hid (fun j hj => HI.out.ownLt j hj)
   have Hof := hid HI.out.free.2
   have HpL := hid HI.out.pLt
   go_wp2_with fail
   obtain ⟨nW, hnW⟩ : ∃ nW, nW = wr.heap.size := ⟨_, rfl⟩
   have HnW := hid hnW
   clear hnW
   apply wp_drawn_pg 8 11 (Kept2 p p) (fun a b => a.grownBy b u0.ownBlock) (CloneB w nW) (Ext wr) (fun W => W.heap[p]? = some (.cells #[u0] 126)) (fun W => ∃ v' x, NewIs S0 p p (V ++ [(d, D)]) v' (L ++ [x]) W) [isV _, isV _, isV _, isV _, isV u0, isV _, pCl p nW S0 d D, pBx p nW S0 d D, pAp S0 p p (V ++ [(d, D)]) L, isV _, isV _, anyV] (by kernel_rfl)
   ·kernel_rfl
   ·kernel_rfl
   ·intro W hE
    exact ⟨⟨HE.out.trans' hE, by rw [HnW.out]; exact hE.size⟩, hE⟩
   ·intro W W' hE
    exact ⟨Kept2.of_ext hE, fun h => ⟨h.ext.trans' hE, Nat.le_trans h.size hE.size⟩, fun h => h.trans' hE, fun h => (hE.block p (Array.getElem?_eq_some_iff.1 h).1).trans h, fun ⟨v', x, h⟩ => ⟨v', x, h.ext hE⟩⟩
   ·refine ⟨?cls0, ?cls1, ?cls2, ?cls3, ?cls4, ?cls5, ?cls6, ?cls7, ?cls8, ?cls9, ?cls10, ?cls11, trivial⟩
    case cls0 =>
     refine @stepPg_quiet _ _ _ _ _ _ _ _ _ _ _ _ _ _ (by decide) (by decide) ?_
     intro v W hE hd; simp only [Region.wanted, ↓reduceIte]; (try simp [deps, waitsOn, Region.binds, knowing, isV, ownsV, anyV] at hd); simp only [putAll, List.take_succ_cons, List.take_zero, List.drop_succ_cons, List.drop_zero, Act.put, List.setIfInBounds_toArray, List.set_cons_zero, List.set_cons_succ, Nat.zero_add, Nat.reduceAdd]; go_simp; exact ⟨Below.refl _ _, rfl⟩
    case cls1 =>
     refine @stepPg_quiet _ _ _ _ _ _ _ _ _ _ _ _ _ _ (by decide) (by decide) ?_
     intro v W hE hd; simp only [Region.wanted, ↓reduceIte]; (try simp [deps, waitsOn, Region.binds, knowing, isV, ownsV, anyV] at hd); simp only [putAll, List.take_succ_cons, List.take_zero, List.drop_succ_cons, List.drop_zero, Act.put, List.setIfInBounds_toArray, List.set_cons_zero, List.set_cons_succ, Nat.zero_add, Nat.reduceAdd]; go_simp; exact ⟨Below.refl _ _, rfl⟩
    case cls2 =>
     refine @stepPg_quiet _ _ _ _ _ _ _ _ _ _ _ _ _ _ (by decide) (by decide) ?_
     intro v W hE hd; simp only [Region.wanted, ↓reduceIte]; (try simp [deps, waitsOn, Region.binds, knowing, isV, ownsV, anyV] at hd); simp only [putAll, List.take_succ_cons, List.take_zero, List.drop_succ_cons, List.drop_zero, Act.put, List.setIfInBounds_toArray, List.set_cons_zero, List.set_cons_succ, Nat.zero_add, Nat.reduceAdd]; go_simp; exact ⟨Below.refl _ _, rfl⟩
    case cls3 =>
     refine @stepPg_quiet _ _ _ _ _ _ _ _ _ _ _ _ _ _ (by decide) (by decide) ?_
     intro v W hE hd; simp only [Region.wanted, ↓reduceIte]; (try simp [deps, waitsOn, Region.binds, knowing, isV, ownsV, anyV] at hd); simp only [putAll, List.take_succ_cons, List.take_zero, List.drop_succ_cons, List.drop_zero, Act.put, List.setIfInBounds_toArray, List.set_cons_zero, List.set_cons_succ, Nat.zero_add, Nat.reduceAdd]; go_simp; exact ⟨Below.refl _ _, rfl⟩
    case cls4 =>
     refine @stepPg_early _ _ _ _ _ _ _ _ _ _ _ _ _ _ (by decide) (by decide) (by kernel_rfl) ?_
     intro v W hE hd; simp only [Region.wanted, ↓reduceIte]; (try simp [deps, waitsOn, Region.binds, knowing, isV, ownsV, anyV] at hd); simp only [putAll, List.take_succ_cons, List.take_zero, List.drop_succ_cons, List.drop_zero, Act.put, List.setIfInBounds_toArray, List.set_cons_zero, List.set_cons_succ, Nat.zero_add, Nat.reduceAdd]
     have e1 : W.cell? ⟨p, 0, none⟩ = some u0 := by rw [cell_of_row _ _ _ _ _ _ (HI.out.ext hE.2).cell]; rfl
     go_simp
     exact ⟨Below.refl _ _, rfl⟩
    case cls5 =>
     refine @stepPg_quiet _ _ _ _ _ _ _ _ _ _ _ _ _ _ (by decide) (by decide) ?_
     intro v W hE hd; simp only [Region.wanted, ↓reduceIte]; (try simp [deps, waitsOn, Region.binds, knowing, isV, ownsV, anyV] at hd); simp only [putAll, List.take_succ_cons, List.take_zero, List.drop_succ_cons, List.drop_zero, Act.put, List.setIfInBounds_toArray, List.set_cons_zero, List.set_cons_succ, Nat.zero_add, Nat.reduceAdd]; go_simp; exact ⟨Below.refl _ _, rfl⟩
    case cls6 =>
     refine @stepPg_quiet _ _ _ _ _ _ _ _ _ _ _ _ _ _ (by decide) (by decide) ?_
     intro v W hE hd; simp only [Region.wanted, ↓reduceIte]; (try simp [deps, waitsOn, Region.binds, knowing, isV, ownsV, anyV] at hd); simp only [putAll, List.take_succ_cons, List.take_zero, List.drop_succ_cons, List.drop_zero, Act.put, List.setIfInBounds_toArray, List.set_cons_zero, List.set_cons_succ, Nat.zero_add, Nat.reduceAdd]
     go_simp
     refine (foldClone_at (d := d) (HX.out _ hE.ext)).mono ?_
     rintro z w' ⟨s1, m1, rfl, hs1, hm1, hS1, hE2⟩
     have hcl : ClSt p nW S0 d D s1 m1 w' := ⟨⟨Nat.le_trans hE.size hs1, Nat.le_trans hE.size hm1⟩, hS1.less (fun k hk => .inl hk) (.inr (by have := hE.size; have := HpL.out; have := HnW.out; omega)) (.inr (by have := hE.size; have := HpL.out; have := HnW.out; omega))⟩
     have HC := hid hcl; have HE2 := hid hE2
     clear hcl hS1 hE2
     go_simp
     exact ⟨HE2.out, s1, m1, rfl, HC.out⟩
    case cls7 =>
     refine @stepPg_quiet _ _ _ _ _ _ _ _ _ _ _ _ _ _ (by decide) (by decide) ?_
     intro v W hE hd; simp only [Region.wanted, ↓reduceIte]; (try simp [deps, waitsOn, Region.binds, knowing, isV, ownsV, anyV] at hd); simp only [putAll, List.take_succ_cons, List.take_zero, List.drop_succ_cons, List.drop_zero, Act.put, List.setIfInBounds_toArray, List.set_cons_zero, List.set_cons_succ, Nat.zero_add, Nat.reduceAdd]
     obtain ⟨s1, m1, e6, hcl⟩ := hd
     have HC := hid hcl
     clear hcl
     rw [e6]
     go_simp
     exact ⟨ext_alloc _ _, W.heap.size, s1, m1, rfl, hE.size, heap_alloc_last _ _, HC.out.ext (ext_alloc _ _)⟩
    case cls8 =>
     refine @stepPg_fst _ _ _ _ _ _ _ _ _ _ _ _ _ ?_
     intro v W hB hd; refine ⟨rfl, ?_⟩; (try simp [deps, waitsOn, Region.binds, knowing, isV, ownsV, anyV] at hd); simp only [putAll, List.take_succ_cons, List.take_zero, List.drop_succ_cons, List.drop_zero, Act.put, List.setIfInBounds_toArray, List.set_cons_zero, List.set_cons_succ, Nat.zero_add, Nat.reduceAdd]
     obtain ⟨hB, hI⟩ := hB
     obtain ⟨e4, ⟨b1, s1, m1, e7, hb1, hcl0, hcl⟩, -⟩ := hd
     have hbp : p ≤ W.heap.size := by have := hB.size; have := HpL.out; have := HnW.out; omega
     obtain ⟨v', w', hrun, ho, hg, hat⟩ := run_appP _ (HI.out.ext hI).own hbp ⟨b1, 0, none⟩ s1 (.inr ⟨b1, 0, rfl, fun j u hu => by
      match j, hu with
      | 0, hu => simp at hu; subst hu; rw [cell_of_row _ _ _ _ _ _ hcl0]; rfl⟩) Hnl.out
     have hpre := HI.out.pre (x := ⟨s1, m1, d, D⟩) hI (by have h3 := hcl.lo; have h4 := HnW.out; rw [h4] at h3; exact h3) hcl.st.lt (fun S' hS h1 h2 => hcl.st.less (fun j hj => by
      have h3 := hcl.lo; have h4 := HpL.out; have h5 := HnW.out
      rcases hS j hj with h | h | h | h
      ·exact .inl h
      ·exact .inr h.1
      ·right; dsimp only at h; omega
      ·right; dsimp only at h; omega) h1 h2) ho hg hat
     refine step_appN (.tmp 21) (.tmp 24) rfl e4 e7 hrun ?_
     refine ⟨v', rfl, ⟨⟨⟨?_, Nat.le_trans hB.size hg.size⟩, hpre.2⟩, hg⟩, _, hpre.1⟩
     exact hB.ext.grown hg hB.ext.size fun j hj => by have := (Hown.out j hj).1; have := Hp.out; omega
    case cls9 =>
     refine @stepPg_quiet _ _ _ _ _ _ _ _ _ _ _ _ _ _ (by decide) (by decide) ?_
     intro v W hE hd; simp only [Region.wanted, ↓reduceIte]; (try simp [deps, waitsOn, Region.binds, knowing, isV, ownsV, anyV] at hd); simp only [putAll, List.take_succ_cons, List.take_zero, List.drop_succ_cons, List.drop_zero, Act.put, List.setIfInBounds_toArray, List.set_cons_zero, List.set_cons_succ, Nat.zero_add, Nat.reduceAdd]; go_simp; exact ⟨Below.refl _ _, rfl⟩
    case cls10 =>
     refine @stepPg_quiet _ _ _ _ _ _ _ _ _ _ _ _ _ _ (by decide) (by decide) ?_
     intro v W hE hd; simp only [Region.wanted, ↓reduceIte]; (try simp [deps, waitsOn, Region.binds, knowing, isV, ownsV, anyV] at hd); simp only [putAll, List.take_succ_cons, List.take_zero, List.drop_succ_cons, List.drop_zero, Act.put, List.setIfInBounds_toArray, List.set_cons_zero, List.set_cons_succ, Nat.zero_add, Nat.reduceAdd]; go_simp; exact ⟨Below.refl _ _, rfl⟩
    case cls11 =>
     refine @stepPg_snd _ _ _ _ _ _ _ _ _ _ _ _ _ (by decide) ?_
     intro v W hB hd; refine ⟨rfl, ?_⟩; (try simp [deps, waitsOn, Region.binds, knowing, isV, ownsV, anyV] at hd); simp only [putAll, List.take_succ_cons, List.take_zero, List.drop_succ_cons, List.drop_zero, Act.put, List.setIfInBounds_toArray, List.set_cons_zero, List.set_cons_succ, Nat.zero_add, Nat.reduceAdd]
     obtain ⟨hB, hI⟩ := hB
     obtain ⟨e10, ⟨x, hpre⟩, -⟩ := hd
     obtain ⟨A8, l8, c8, e8⟩ : ∃ A l c, v 8 = .slice A l c := (let ⟨A, c, _, e, _⟩ := hpre.own.read; ⟨A, _, c, e⟩)
     rw [e8] at hpre ⊢
     have hst := hpre.store hI
     have g1 : W.cell? ⟨p, 0, none⟩ = some u0 := by rw [cell_of_row _ _ _ _ _ _ hI]; rfl
     have g2 : W.frozen? ⟨p, 0, none⟩ = false := by have := hI; simp [World.frozen?, this]
     have HS := hid hst
     have HB2 := hid (show CloneB w nW (W.setCell ⟨p, 0, none⟩ (.slice A8 l8 c8)) from ⟨hB.ext.setCell (by have := Hp.out; show w.heap.size ≤ p; omega) _, by have := hB.size; simpa using this⟩)
     have HK := hid (show Kept2 p p W (W.setCell ⟨p, 0, none⟩ (.slice A8 l8 c8)) from ⟨rfl, rfl, rfl, by simp, fun k hk h1 _ => heap_setCell_other W ⟨p, 0, none⟩ k _ (fun e => h1 e)⟩)
     clear hst hpre hI hB e8
     go_simp
     exact ⟨⟨⟨HB2.out, _, x, HS.out⟩, HK.out⟩, undef, trivial⟩
   ·intro i w1 w2 w3 hT h
    match i, h with
    | 0, h => exact h
    | 1, h => exact h
    | 2, h => exact h
    | 3, h => exact h
    | 4, h => exact h
    | 5, h => exact h
    | 6, h =>
     exact (fun ⟨s, m, e, h⟩ => ⟨s, m, e, h.kept hT ⟨Nat.le_refl _, by have := HpL.out; have := HnW.out; omega⟩⟩ : _ → _) h
    | 7, h =>
     exact (fun ⟨b, s, m, e, h0, h1, h⟩ => ⟨b, s, m, e, h0, (hT.block b (Array.getElem?_eq_some_iff.1 h1).1 (by have := HpL.out; have := HnW.out; omega) (by have := HpL.out; have := HnW.out; omega)).trans h1, h.kept hT ⟨Nat.le_refl _, by have := HpL.out; have := HnW.out; omega⟩⟩ : _ → _) h
    | 8, h =>
     exact (fun ⟨x, h⟩ => ⟨x, h.kept hT⟩ : _ → _) h
    | 9, h => exact h
    | 10, h => exact h
    | 11, h => exact h
    | _ + 12, h => exact h
   ·intro i w1 w2 w3 hip hT h
    match i, hip, h with
    | 0, hip, h => exact h
    | 1, hip, h => exact h
    | 2, hip, h => exact h
    | 3, hip, h => exact h
    | 4, hip, h => exact h
    | 5, hip, h => exact h
    | 6, hip, h =>
     exact (fun ⟨s, m, e, h⟩ => ⟨s, m, e, h.grown hT fun j hj => by have := Hown.out j hj; have := HnW.out; omega⟩ : _ → _) h
    | 7, hip, h =>
     exact (fun ⟨b, s, m, e, h0, h1, h⟩ => ⟨b, s, m, e, h0, (hT.block b (Array.getElem?_eq_some_iff.1 h1).1 (fun e' => by have := Hown.out b e'.symm; have := HnW.out; omega)).trans h1, h.grown hT fun j hj => by have := Hown.out j hj; have := HnW.out; omega⟩ : _ → _) h
    | 8, hip, h =>
     exact absurd rfl hip
    | 9, hip, h => exact h
    | 10, hip, h => exact h
    | 11, hip, h => exact h
    | _ + 12, hip, h => exact h
   ·rintro v W9 hB hI ⟨-, -, -, -, -, -, -, -, -, -, -, -, -⟩
    simp only [putAll, List.take_succ_cons, List.take_zero, List.drop_succ_cons, List.drop_zero, Act.put, List.setIfInBounds_toArray, List.set_cons_zero, List.set_cons_succ, Nat.zero_add, Nat.reduceAdd]
    obtain ⟨v', x, hI'⟩ := hI
    have HIf := hid hI'; have HEf := hid hB.ext
    clear hI' hB
    go_wp2_with fail
    go_roundw
    case rel => exact ⟨k + 1, by omega, by go_num, by rw [HV.out]; exact ⟨_, _, HIf.out⟩, HEf⟩
    case measure => simp [intOf]; omega
  ·obtain rfl : k = n := by omega
   have hlt' : ¬ ((k : Int) < (k : Int)) := by omega
   have hall : L0.take k = L0 := List.take_of_length_le (by have := hn.out; omega)
   rw [hall] at HI
   have hpost := hid (show ClonedIs w S0 L0 (.returned (.pointer (some ⟨p, 0, none⟩))) wr from ⟨HE.out, p, u0, L, rfl, by have := HI.out; rw [Hp.out] at this ⊢; exact this⟩)
   go_wp2
   go_ret
   exact hpost.out
end Go.Proofs.YtakebdeldndaaaaGreatDoor
