/- Several texts of this claim's, one behind the other. -/
import Derived.Test.YtakebdeldndaaaaGreatDoorPjClone
import Derived.Test.YtakebdeldndaaaaGreatDoorFitB
import Derived.Test.YtakebdeldndaaaaGreatDoorFoy
import Derived.Test.YtakebdeldndaaaaGreatDoorQB0
import Derived.Test.YtakebdeldndaaaaGreatDoorFoz
/- proj.Set.Apply. -/
namespace Go.Proofs.YtakebdeldndaaaaGreatDoor
open Go Go.RowKit
set_option linter.unusedSimpArgs false
set_option linter.unusedVariables false

def RRec : Rep (Int × Int × EvV) := Rep.pair Rep.i64 (Rep.pair Rep.i64 REv)
theorem rec_at {w : World} {K : Nat → Prop} {A : Option Addr} {n c : Nat} {xs : List (Int × Int × EvV)} (h : SlR RRec w K A n c xs) (i : Nat) (hi : i < xs.length) :
    ∃ b o T a U u, A = some ⟨b, o, none⟩ ∧ K b ∧ w.cell? ⟨b, o + i * 6, none⟩ = some (.int .i64 (xs[i]'hi).1) ∧ w.cell? ⟨b, o + i * 6 + 1, none⟩ = some (.int .i64 (xs[i]'hi).2.1) ∧ w.cell? ⟨b, o + i * 6 + 2, none⟩ = some (.string (str (xs[i]'hi).2.2.st)) ∧ w.cell? ⟨b, o + i * 6 + 3, none⟩ = some (.string (str (xs[i]'hi).2.2.ty)) ∧
      w.cell? ⟨b, o + i * 6 + 4, none⟩ = some (.slice T (xs[i]'hi).2.2.tags.length a) ∧ w.cell? ⟨b, o + i * 6 + 5, none⟩ = some (.slice U (xs[i]'hi).2.2.fields.length u) ∧
      Short (xs[i]'hi).2.2.st ∧ Short (xs[i]'hi).2.2.ty ∧ SlR Rep.txt w K T (xs[i]'hi).2.2.tags.length a (xs[i]'hi).2.2.tags ∧ SlR RField w K U (xs[i]'hi).2.2.fields.length u (xs[i]'hi).2.2.fields := by
  obtain ⟨b, o, cs, e, hk, hd, hg⟩ := h.get (by decide) i hi
  obtain ⟨c0, r0, e0, h0, c1, r1, e1, h1, h2⟩ := hd
  obtain ⟨T, a, U, u, e2, s1, s2, ht, hu⟩ := ev_rel h2
  have e0' : c0 = [.int .i64 (xs[i]'hi).1] := h0
  have e1' : c1 = [.int .i64 (xs[i]'hi).2.1] := h1
  subst e0' e1' e2
  subst e1
  subst e0
  refine ⟨b, o, T, a, U, u, e, hk, ?_, ?_, ?_, ?_, ?_, ?_, s1, s2, ht, hu⟩
  · have := hg 0 _ rfl; simpa [show RRec.size = 6 from rfl] using this
  · have := hg 1 _ rfl; simpa [show RRec.size = 6 from rfl, Nat.add_assoc] using this
  · have := hg 2 _ rfl; simpa [show RRec.size = 6 from rfl, Nat.add_assoc] using this
  · have := hg 3 _ rfl; simpa [show RRec.size = 6 from rfl, Nat.add_assoc] using this
  · have := hg 4 _ rfl; simpa [show RRec.size = 6 from rfl, Nat.add_assoc] using this
  · have := hg 5 _ rfl; simpa [show RRec.size = 6 from rfl, Nat.add_assoc] using this
def evsOf (rs : List (Int × Int × EvV)) : List EvV := rs.map (·.2.2)
structure RanIs (w : World) (S : Nat → Prop) (s m : Nat) (d : DefV) (es : List EvV) (D : Ents) (x : Ending) (w' : World) : Prop where
  ans : x = .returned (.int .i64 (if okRun d es D = true then 0 else 4))
  st : ∃ D', StIs w' S s m (kdVal d) d.q D' ∧ (okRun d es D = true → D' = foldE d D es)
  kept : Kept2 s m w w'
set_option maxRecDepth 100000 in
set_option maxHeartbeats 4000000 in
theorem applyOne_at {w : World} {S : Nat → Prop} {s m bx : Nat} {d : DefV} {D : Ents} (h : StIs w S s m (kdVal d) d.q D) {A : Option Addr} {n c : Nat} {rs : List (Int × Int × EvV)} (hb : w.heap[bx]? = some (.cells #[.slice A n c] 117)) (hbS : ¬ S bx) (hr : SlR RRec w (Out S w) A n c rs)
    {B : Int} (hf : RunFit d D B rs.length) (hs : ∀ e ∈ evsOf rs, SmallE e) :
    Calls Tryz.prog 105 #[.pointer (some ⟨s, 0, none⟩), .pointer (some ⟨bx, 0, none⟩)] w fun x w' => RanIs w S s m d (evsOf rs) D x w' := by
  have hn := hid hr.1
  have hnc := hr.2.1
  have hcm := hr.2.2.1
  have HS := hid h
  have HR := hid hr
  have hel : (evsOf rs).length = rs.length := List.length_map ..
  have HF := hid (RunFit.ok (es := evsOf rs) (by rw [hel]; exact hf) hs)
  have Hsm := hid hs
  have Hel := hid hel
  have Hbl := hid (And.intro (Array.getElem?_eq_some_iff.1 hb).1 hbS)
  have b0 : w.cell? ⟨bx, 0, none⟩ = some (.slice A n c) := by rw [cell_of_row _ _ _ _ _ _ hb]; rfl
  clear h hr hf hs hel hb hbS
  go_enter Tryz.func105, Tryz.ntmps105
  go_wp2_with fail
  clear b0
  go_loopw [9] (fun i wr => ∃ k : Nat, k ≤ n ∧ i = .int .i64 (k : Int) ∧ Hid (StIs wr S s m (kdVal d) d.q (foldE d D ((evsOf rs).take k))) ∧ Hid (SlR RRec wr (Out S wr) A n c rs) ∧ Hid (Kept2 s m w wr) ∧ Hid (∀ j (hj : j < k) (h : j < (evsOf rs).length), (StepF d (evsOf rs)[j] (foldE d D ((evsOf rs).take j))).1 = 0)) (fun i _ => n - (intOf i).toNat)
  case atStart => exact ⟨0, by omega, rfl, HS, HR, Kept2.refl _ _ _, fun j hj => by omega⟩
  case round =>
    obtain ⟨k, hk, rfl, HS, HR, HK, HN⟩ := hrel
    by_cases hlt : k < n
    · have hkx : k < rs.length := by have := hn.out; omega
      have hke : k < (evsOf rs).length := by have := Hel.out; omega
      have hlt' : (k : Int) < (n : Int) := by omega
      have hk00 : ¬ ((k : Int) < 0) := by omega
      have hk0 : (0 : Int) ≤ (k : Int) := by omega
      obtain ⟨b, o, T, a, U, u, rfl, -, f0, f1, f2, f3, f4, f5, s1, s2, ht, hu⟩ := rec_at HR.out k hkx
      have hge : (evsOf rs)[k] = rs[k].2.2 := List.getElem_map (fun r : Int × Int × EvV => r.2.2)
      have Hft := hid (HF.out k hke)
      have Hse := hid (Hsm.out _ (List.getElem_mem hke))
      have Hda := hid (foldE_take d D hke)
      have Hno := hid (okRun_no (d := d) (D := D) hke)
      have Hnx := hid (show (StepF d (evsOf rs)[k] (foldE d D ((evsOf rs).take k))).1 = 0 → ∀ j (hj : j < k + 1) (h : j < (evsOf rs).length), (StepF d (evsOf rs)[j] (foldE d D ((evsOf rs).take j))).1 = 0 from fun h0 j hj h => by
        rcases Nat.lt_succ_iff_lt_or_eq.1 hj with h' | rfl
        · exact HN.out j h' h
        · exact h0)
      rw [hge] at Hda Hno Hnx Hse
      clear hge HN
      generalize rs[k] = r at *
      obtain ⟨ps, vr, e⟩ := r
      dsimp only at f0 f1 f2 f3 f4 f5 s1 s2 ht hu Hda Hno Hnx Hse ⊢
      have hE1 := ext_alloc wr (.cells #[.int .i64 ps, .int .i64 vr, .string (str e.st), .string (str e.ty), .slice T e.tags.length a, .slice U e.fields.length u] 116)
      have Hev := hid (show EvS wr S T e.tags.length a U e.fields.length u e from ⟨s1, s2, ht, hu⟩)
      have hst := step_at (p := ps) (vr := vr) (HS.out.ext hE1) (Hev.out.ext hE1) Hse.out Hft.out.1 Hft.out.2
      unfold recVal at hst
      have HE1 := hid hE1
      have HR1 := hid (slR_more HR.out hE1 (S' := S) (fun _ hk => .inl hk))
      clear s1 s2 ht hu hE1
      generalize e.tags.length = tl at *
      generalize e.fields.length = ul at *
      go_wp2_with fail
      refine hst.mono ?_
      clear hst f0 f1 f2 f3 f4 f5
      rintro x w2 ⟨rfl, hS2, hK2⟩
      have hse := step_err d e (foldE d D ((evsOf rs).take k))
      have HS2 := hid hS2
      have HR2 := hid (slR_kept HR1.out hK2 HS.out.sIn HS.out.mIn)
      have HK2 := hid ((HK.out.trans (Kept2.of_ext HE1.out)).trans hK2)
      clear hS2 hK2
      rcases hse with h0 | h4
      · have hn2 := hid (Hnx.out h0)
        rw [h0]
        clear h0
        go_wp2_with fail
        go_roundw
        case rel => exact ⟨k + 1, by omega, by go_num, by rw [Hda.out]; exact HS2, HR2, HK2, hn2⟩
        case measure => simp [intOf]; omega
      · have hno := hid (Hno.out (by rw [h4]; decide))
        rw [h4]
        clear h4
        go_wp2
        go_ret
        exact ⟨by rw [hno.out]; rfl, ⟨_, HS2.out, fun h => by rw [hno.out] at h; cases h⟩, HK2.out⟩
    · obtain rfl : k = n := by omega
      have hlt' : ¬ ((k : Int) < (k : Int)) := by omega
      have hok := hid (okRun_yes (d := d) (es := evsOf rs) (D := D) fun j hj => HN.out j (by have := hn.out; have := Hel.out; omega) hj)
      have hall : (evsOf rs).take k = evsOf rs := List.take_of_length_le (by have := hn.out; have := Hel.out; omega)
      rw [hall] at HS
      clear HN
      go_wp2
      go_ret
      exact ⟨by rw [hok.out]; rfl, ⟨_, HS.out, fun _ => rfl⟩, HK.out⟩
end Go.Proofs.YtakebdeldndaaaaGreatDoor

/- proj.Set.does, and Apply. -/
namespace Go.Proofs.YtakebdeldndaaaaGreatDoor
open Go Go.RowKit
set_option linter.unusedSimpArgs false
set_option linter.unusedVariables false

theorem enters_apply1 : Enters 105 := enters_of Tryz.func105 (by kernel_rfl) rfl
structure DidIs (w : World) (S : Nat → Prop) (p : Nat) (L : List Pc) (es : List EvV) (x : Ending) (w' : World) : Prop where
  kept : Kept2 p p w w'
  ans : (okAll es (viewP L) = true ∧ x = .returned (.int .i64 0) ∧ ∃ L' S', SetIs w' S' p L' ∧ viewP L' = runAll es (viewP L) ∧ (∀ k, S' k → (S k ∨ w.heap.size ≤ k) ∧ k < w'.heap.size) ∧ (∀ k, S k → S' k) ∧ RowLo w' w.heap.size p L' ∧ (∀ k, Blk L' k → w.heap.size ≤ k)) ∨
    (okAll es (viewP L) = false ∧ x = .returned (.int .i64 4) ∧ Ext w w')
theorem view_get {L L' : List Pc} (h : viewP L' = viewP L) : L'.length = L.length ∧ ∀ i (hi : i < L'.length) (hi' : i < L.length), L'[i].d = L[i].d ∧ L'[i].D = L[i].D := by
  have hl : L'.length = L.length := by
    have := congrArg List.length h
    unfold viewP at this
    simpa using this
  refine ⟨hl, fun i hi hi' => ?_⟩
  have h1 : (viewP L')[i]'(by unfold viewP; simpa using hi) = (viewP L)[i]'(by unfold viewP; simpa using hi') := by simp only [h]
  unfold viewP at h1
  simp only [List.getElem_map, Prod.mk.injEq] at h1
  exact h1
set_option maxRecDepth 100000 in
set_option maxHeartbeats 4000000 in
theorem doesApply_at {w : World} {S : Nat → Prop} {p : Nat} {L : List Pc} (h : SetIs w S p L) (hS : ∀ k, S k → k < w.heap.size) (hl : L.length ≤ 1000) {bx : Nat} {A : Option Addr} {n c : Nat} {rs : List (Int × Int × EvV)} (hb : w.heap[bx]? = some (.cells #[.slice A n c] 117)) (hbS : ¬ S bx) (hr : SlR RRec w (Out S w) A n c rs)
    {B : Int} (hf : ∀ x ∈ L, RunFit x.d x.D B rs.length) (hs : ∀ e ∈ evsOf rs, SmallE e) :
    Calls Tryz.prog 104 #[.pointer (some ⟨p, 0, none⟩), .func (.func 105) #[] #[.pointer (some ⟨bx, 0, none⟩)]] w fun x w' => DidIs w S p L (evsOf rs) x w' := by
  have HSet := hid h
  have HS := hid hS
  have Hb := hid (And.intro hb hbS)
  have Hr := hid hr
  have Hf := hid hf
  have Hs := hid hs
  have hcc := setClone_at h hS hl
  clear h hS hb hbS hr hf hs
  have hg' : ∀ args w, (callFunc 105 args).run Tryz.prog w = .ok (.enter 105 args) w := enters_apply1
  go_enter Tryz.func104, Tryz.ntmps104
  go_wp2_with fail
  refine hcc.mono ?_
  clear hcc
  rintro e w1 ⟨hE, p', v, L', rfl, hI⟩
  have HE := hid hE
  have hdone := hI.done
  have hvg := view_get hI.view
  have Hlt := hid (fun k hk => hI.lt k hk)
  have Hxlo := hid hI.xlo
  clear hE
  obtain ⟨A', c', hc', hrow⟩ := hI.rowLo
  have Hview := hid hI.view
  have Hpcs := hid hdone.pcs
  have Hfree := hid hdone.pFree
  have Hp' := hid (And.intro hI.lo.2 hI.pLt)
  have Hnc := hid (And.intro hrow.2.1 hrow.2.2.1)
  have HRow := hid hrow
  have hl' : L'.length ≤ 1000 := by omega
  have b0 : w1.cell? ⟨p', 0, none⟩ = some (.slice A' L'.length c') := by rw [cell_of_row _ _ _ _ _ _ hc']; rfl
  have B0 := hid b0
  have Hvg := hid hvg
  have hnc := Hnc.out.1
  have hcm := Hnc.out.2
  clear hI hdone hrow hvg hc'
  generalize hln : L'.length = n' at HRow b0 B0 hnc hl' ⊢
  have Hln := hid hln
  clear hln
  go_wp2_with fail
  clear b0
  go_loopw [16] (fun i wr => ∃ k : Nat, k ≤ n' ∧ i = .int .i64 (k : Int) ∧ Hid (PcsIs wr (NewS S p' v L') (doneP (evsOf rs) k L')) ∧ Hid (Ext w wr) ∧ Hid (SlR Rep.ptr wr (fun j => Free L' p' wr j ∧ w.heap.size ≤ j) A' n' c' (L'.map (·.s))) ∧ Hid (wr.cell? ⟨p', 0, none⟩ = some (.slice A' n' c')) ∧ Hid (w1.heap.size ≤ wr.heap.size) ∧ Hid (∀ j (hj : j < k) (h : j < L'.length), okRun L'[j].d (evsOf rs) L'[j].D = true)) (fun i _ => n' - (intOf i).toNat)
  case atStart => exact ⟨0, by omega, rfl, by rw [doneP_zero]; exact Hpcs, HE, HRow, B0, Nat.le_refl _, fun j hj => by omega⟩
  case round =>
    obtain ⟨k, hk, rfl, HP, HE2, HRw, HC, Hsz, HN⟩ := hrel
    by_cases hlt : k < n'
    · have hkx : k < L'.length := by have := Hln.out; omega
      have hkl : k < L.length := by have := Hvg.out.1; have := Hln.out; omega
      have hlt' : (k : Int) < (n' : Int) := by omega
      have hk00 : ¬ ((k : Int) < 0) := by omega
      have hk0 : (0 : Int) ≤ (k : Int) := by omega
      obtain ⟨b, o, rfl, -, f0⟩ := ptr_at HRw.out k (by rw [List.length_map]; exact hkx)
      rw [List.getElem_map] at f0
      have hdl : k < (doneP (evsOf rs) k L').length := by rw [length_doneP]; exact hkx
      have hx := HP.out.each _ (List.getElem_mem hdl)
      rw [doneP_at (evsOf rs) hkx] at hx
      have hfx := Hf.out _ (List.getElem_mem hkl)
      have hvx := Hvg.out.2 k hkx hkl
      rw [← hvx.1, ← hvx.2] at hfx
      have hcc := applyOne_at (d := L'[k].d) hx (HE2.out.block bx (Array.getElem?_eq_some_iff.1 Hb.out.1).1 |>.trans Hb.out.1) (fun hn => by
        rcases hn with hn | hn | hn | hn
        · have := (Array.getElem?_eq_some_iff.1 Hb.out.1).1; have := Hp'.out.1; omega
        · have := Hlt.out bx (.inr (.inl hn)); have := (Array.getElem?_eq_some_iff.1 Hb.out.1).1; omega
        · have := Hlt.out bx (.inr (.inr (.inl hn))); have := (Array.getElem?_eq_some_iff.1 Hb.out.1).1; omega
        · exact Hb.out.2 hn) ((Hr.out.ext fun j hj => HE2.out.block j hj.1).mono fun j hj => ⟨Nat.lt_of_lt_of_le hj.1 HE2.out.size, fun hn => by
        have hj1 := hj.1
        rcases hn with hn | hn | hn | hn
        · have := Hp'.out.1; omega
        · have := Hlt.out j (.inr (.inl hn)); omega
        · have := Hlt.out j (.inr (.inr (.inl hn))); omega
        · exact hj.2 hn⟩) hfx Hs.out
      have hbl : Blk L' L'[k].s ∧ Blk L' L'[k].m := ⟨⟨_, List.getElem_mem hkx, .inl rfl⟩, ⟨_, List.getElem_mem hkx, .inr rfl⟩⟩
      have Hbl := hid hbl
      have Hput := hid (doneP_put (evsOf rs) hkx)
      have Hat := hid (doneP_at (evsOf rs) hkx)
      have Hno := hid (fun h => okAll_no (es := evsOf rs) hkx h)
      have Hnx := hid (show okRun L'[k].d (evsOf rs) L'[k].D = true → ∀ j (hj : j < k + 1) (h : j < L'.length), okRun L'[j].d (evsOf rs) L'[j].D = true from fun h0 j hj h => by
        rcases Nat.lt_succ_iff_lt_or_eq.1 hj with h' | rfl
        · exact HN.out j h' h
        · exact h0)
      have Hdl := hid hdl
      have Hkx := hid hkx
      clear hx hfx hvx hbl HN hdl
      go_wp2_with fail
      refine hcc.mono ?_
      clear hcc f0
      rintro x w2 ⟨rfl, ⟨D', hS2, hD'⟩, hK2⟩
      have HKE := hid (show Ext w w2 from HE2.out.trans (hK2.below (by have := (Hlt.out _ (.inr (.inr (.inl Hbl.out.1)))).1; exact this) (by have := (Hlt.out _ (.inr (.inr (.inl Hbl.out.2)))).1; exact this) HE2.out.size))
      have hRw2 : SlR Rep.ptr w2 (fun j => Free L' p' w2 j ∧ w.heap.size ≤ j) (some ⟨b, o, none⟩) n' c' (L'.map (·.s)) := (HRw.out.ext fun j hj => hK2.block j hj.1.1 (fun e => hj.1.2.2 (e ▸ Hbl.out.1)) (fun e => hj.1.2.2 (e ▸ Hbl.out.2))).mono fun j hj => ⟨⟨Nat.lt_of_lt_of_le hj.1.1 hK2.size, hj.1.2⟩, hj.2⟩
      have hC2 : w2.cell? ⟨p', 0, none⟩ = some (.slice (some ⟨b, o, none⟩) n' c') := by
        have hb2 := hK2.block p' (Nat.lt_of_lt_of_le Hp'.out.2 Hsz.out) (fun e => Hfree.out (e ▸ Hbl.out.1)) (fun e => Hfree.out (e ▸ Hbl.out.2))
        have e : w2.cell? ⟨p', 0, none⟩ = wr.cell? ⟨p', 0, none⟩ := by unfold World.cell?; dsimp only; rw [hb2]
        rw [e]; exact HC.out
      have HRw2 := hid hRw2; have HC2 := hid hC2; have Hsz2 := hid (Nat.le_trans Hsz.out hK2.size)
      cases hok : okRun L'[k].d (evsOf rs) L'[k].D
      · have hno := hid (show okAll (evsOf rs) (viewP L) = false from by rw [← Hview.out]; exact Hno.out hok)
        have hpost := hid (show DidIs w S p L (evsOf rs) (.returned (.int .i64 4)) w2 from ⟨Kept2.of_ext HKE.out, .inr ⟨hno.out, rfl, HKE.out⟩⟩)
        clear hS2 hK2 hRw2 hC2 hD'
        go_wp2
        go_ret
        exact hpost.out
      · have hn2 := hid (Hnx.out hok)
        have hP2 : PcsIs w2 (NewS S p' v L') (doneP (evsOf rs) (k + 1) L') := by
          have h1 := HP.out.step (i := k) Hdl.out (D' := D') (w' := w2) (by rw [Hat.out]; exact hS2) (by rw [Hat.out]; exact hK2)
          rw [hD' hok, Hput.out] at h1
          exact h1
        have HP2 := hid hP2
        clear hS2 hK2 hRw2 hC2 hD' hP2 hok
        go_wp2_with fail
        go_roundw
        case rel => exact ⟨k + 1, by omega, by go_num, HP2, HKE, HRw2, HC2, Hsz2, hn2⟩
        case measure => simp [intOf]; omega
    · obtain rfl : k = n' := by omega
      have hlt' : ¬ ((k : Int) < (k : Int)) := by omega
      have hok := hid (show okAll (evsOf rs) (viewP L) = true from by rw [← Hview.out]; exact okAll_yes fun i hi => HN.out i (by have := Hln.out; omega) hi)
      have hvd := hid (show viewP (doneP (evsOf rs) k L') = runAll (evsOf rs) (viewP L) from by rw [doneP_all (evsOf rs) (by have := Hln.out; omega), Hview.out])
      obtain ⟨A0, c0, hc0, -⟩ := HSet.out.row
      have hpl := HSet.out.lt
      have hcw : wr.heap[p]? = some (.cells #[.slice A0 L.length c0] 126) := (HE2.out.block p hpl).trans hc0
      have g1 : wr.cell? ⟨p, 0, none⟩ = some (.slice A0 L.length c0) := by rw [cell_of_row _ _ _ _ _ _ hcw]; rfl
      have g2 : wr.frozen? ⟨p, 0, none⟩ = false := by simp [World.frozen?, hcw]
      have g3 := HC.out
      have hkp : Kept2 p p wr (wr.setCell ⟨p, 0, none⟩ (.slice A' k c')) := ⟨rfl, rfl, rfl, by simp, fun j hj h1 _ => heap_setCell_other wr ⟨p, 0, none⟩ j _ (fun e => h1 e)⟩
      have hdlen : (doneP (evsOf rs) k L').length = k := by rw [length_doneP]; exact Hln.out
      have hnb : ¬ Blk (doneP (evsOf rs) k L') p := fun hb => by
        have := (Hlt.out p (.inr (.inr (.inl ((doneP_blk _ _ _ _).1 hb))))).1
        omega
      have hSet : SetIs (wr.setCell ⟨p, 0, none⟩ (.slice A' k c')) (NewS S p' v L') p (doneP (evsOf rs) k L') := by
        refine ⟨⟨A', c', ?_, ?_⟩, HP.out.kept hkp (.inr (.inr (.inr HSet.out.pIn))) (.inr (.inr (.inr HSet.out.pIn))) hnb hnb, .inr (.inr (.inr HSet.out.pIn)), hnb⟩
        · rw [hdlen]; exact heap_setCell_row hcw _
        · rw [hdlen, doneP_s]
          refine (HRw.out.ext fun j hj => hkp.block j hj.1.1 (by have := hj.2; omega) (by have := hj.2; omega)).mono fun j hj => ⟨Nat.lt_of_lt_of_le hj.1.1 hkp.size, by have := hj.2; omega, fun hb => hj.1.2.2 ((doneP_blk _ _ _ _).1 hb)⟩
      have hLo : RowLo (wr.setCell ⟨p, 0, none⟩ (.slice A' k c')) w.heap.size p (doneP (evsOf rs) k L') := by
        refine ⟨A', c', ?_, ?_⟩
        · rw [hdlen]; exact heap_setCell_row hcw _
        · rw [hdlen, doneP_s]
          exact (HRw.out.ext fun j hj => hkp.block j hj.1.1 (by have := hj.2; omega) (by have := hj.2; omega)).mono fun j hj => ⟨⟨Nat.lt_of_lt_of_le hj.1.1 hkp.size, by have := hj.2; omega, fun hb => hj.1.2.2 ((doneP_blk _ _ _ _).1 hb)⟩, hj.2⟩
      have hpost := hid (show DidIs w S p L (evsOf rs) (.returned (.int .i64 0)) (wr.setCell ⟨p, 0, none⟩ (.slice A' k c')) from
        ⟨(Kept2.of_ext HE2.out).trans hkp, .inl ⟨hok.out, rfl, _, _, hSet, hvd.out, fun j hj => by
          have h1 := hkp.size; have h2 := Hsz.out
          rcases hj with hj | hj | hj | hj
          · have := Hlt.out j (.inl hj); exact ⟨.inr this.1, by omega⟩
          · have := Hlt.out j (.inr (.inl hj)); exact ⟨.inr this.1, by omega⟩
          · have := Hlt.out j (.inr (.inr (.inl hj))); exact ⟨.inr this.1, by omega⟩
          · have := HS.out j hj; have := HE2.out.size; exact ⟨.inl hj, by omega⟩, fun j hj => .inr (.inr (.inr hj)), hLo, fun j hj => (Hlt.out j (.inr (.inr (.inl ((doneP_blk _ _ _ _).1 hj))))).1⟩⟩)
      clear hSet hkp hcw hc0 hdlen hnb hLo
      go_wp2
      go_ret
      exact hpost.out
set_option maxRecDepth 100000 in
set_option maxHeartbeats 2000000 in
theorem setApply_at {w : World} {S : Nat → Prop} {p : Nat} {L : List Pc} (h : SetIs w S p L) (hS : ∀ k, S k → k < w.heap.size) (hl : L.length ≤ 1000) {A : Option Addr} {n c : Nat} {rs : List (Int × Int × EvV)} (hr : SlR RRec w (Out S w) A n c rs)
    {B : Int} (hf : ∀ x ∈ L, RunFit x.d x.D B rs.length) (hs : ∀ e ∈ evsOf rs, SmallE e) :
    Calls Tryz.prog 66 #[.pointer (some ⟨p, 0, none⟩), .slice A n c] w fun x w' => DidIs w S p L (evsOf rs) x w' := by
  have hE := ext_alloc w (.cells #[.slice A n c] 117)
  have hcc := doesApply_at (bx := w.heap.size) (h.ext hE) (fun k hk => Nat.lt_of_lt_of_le (hS k hk) hE.size) hl (heap_alloc_last w _) (fun hb => by have := hS _ hb; omega) (slR_more hr hE (S' := S) (fun _ hk => .inl hk)) hf hs
  have HE := hid hE
  clear h hS hr hf hs hE
  go_enter Tryz.func66, Tryz.ntmps66
  go_wp2_with fail
  refine hcc.mono ?_
  clear hcc
  rintro x w' ⟨hK, hA⟩
  have hs1 := HE.out.size
  rcases hA with ⟨hok, rfl, L', S', h1, h2, h3, h4, h5, h6⟩ | ⟨hok, rfl, hE2⟩
  · have hpost := hid (show DidIs w S p L (evsOf rs) (.returned (.int .i64 0)) w' from ⟨(Kept2.of_ext HE.out).trans hK, .inl ⟨hok, rfl, L', S', h1, h2, fun k hk => ⟨(h3 k hk).1.imp id fun h => by omega, (h3 k hk).2⟩, h4, h5.down hs1, fun k hk => Nat.le_trans hs1 (h6 k hk)⟩⟩)
    clear hok hK h1 h2 h3 h4 h5 h6
    go_wp2
    go_ret
    exact hpost.out
  · have hpost := hid (show DidIs w S p L (evsOf rs) (.returned (.int .i64 4)) w' from ⟨(Kept2.of_ext HE.out).trans hK, .inr ⟨hok, rfl, HE.out.trans' hE2⟩⟩)
    clear hok hK hE2
    go_wp2
    go_ret
    exact hpost.out
end Go.Proofs.YtakebdeldndaaaaGreatDoor

/- proj.Set.Put. -/
namespace Go.Proofs.YtakebdeldndaaaaGreatDoor
open Go Go.RowKit
set_option linter.unusedSimpArgs false
set_option linter.unusedVariables false

def entB (p : Str × Int) : List UInt8 := encT p.1 ++ encB p.2
def rowB (D : Ents) : List UInt8 := D.flatMap entB
def stB (D : Ents) : List UInt8 := encB (D.length : Int) ++ rowB D
def setB (V : List (DefV × Ents)) : List UInt8 := V.flatMap fun x => stB x.2
theorem rowB_next {D : Ents} {k : Nat} (hk : k < D.length) : rowB (D.take (k + 1)) = rowB (D.take k) ++ (encT D[k].1 ++ encB D[k].2) := by
  unfold rowB
  rw [List.take_succ_eq_append_getElem hk, List.flatMap_append]
  simp [entB]
theorem setB_next {V : List (DefV × Ents)} {k : Nat} (hk : k < V.length) : setB (V.take (k + 1)) = setB (V.take k) ++ stB V[k].2 := by
  unfold setB
  rw [List.take_succ_eq_append_getElem hk, List.flatMap_append]
  simp
structure RowFit (D : Ents) : Prop where
  len : D.length ≤ 20000
  key : ∀ p ∈ D, p.1.length ≤ 2001
  num : ∀ p ∈ D, I64 p.2
theorem entB_len {p : Str × Int} (h1 : p.1.length ≤ 2001) (h2 : I64 p.2) : (entB p).length ≤ 2031 := by
  have e1 := encT_len (s := p.1) (by omega)
  have e2 := encB_len (x := p.2) h2
  unfold entB
  rw [List.length_append]; omega
theorem RowFit.row {D : Ents} (h : RowFit D) (k : Nat) : (rowB (D.take k)).length ≤ 2031 * 20000 := by
  have := flat_le (f := entB) (N := 2031) (D.take k) fun p hp => entB_len (h.key p (List.mem_of_mem_take hp)) (h.num p (List.mem_of_mem_take hp))
  have h1 := h.len
  rw [List.length_take] at this
  unfold rowB
  have : 2031 * min k D.length ≤ 2031 * 20000 := Nat.mul_le_mul_left _ (by omega)
  omega
theorem RowFit.st {D : Ents} (h : RowFit D) : (stB D).length ≤ 2031 * 20000 + 10 := by
  have h1 := h.row D.length
  rw [List.take_length] at h1
  have h2 := h.len
  have := encB_len (x := (D.length : Int)) (by omega)
  unfold stB
  rw [List.length_append]; omega
structure PutFit (V : List (DefV × Ents)) : Prop where
  few : V.length ≤ 4
  row : ∀ x ∈ V, RowFit x.2
theorem PutFit.len {V : List (DefV × Ents)} (h : PutFit V) (k : Nat) : (setB (V.take k)).length ≤ (2031 * 20000 + 10) * 4 := by
  have := flat_le (f := fun x : DefV × Ents => stB x.2) (N := 2031 * 20000 + 10) (V.take k) fun x hx => (h.row x (List.mem_of_mem_take hx)).st
  have h1 := h.few
  rw [List.length_take] at this
  have : (2031 * 20000 + 10) * min k V.length ≤ (2031 * 20000 + 10) * 4 := Nat.mul_le_mul_left _ (by omega)
  unfold setB
  omega
def EntBox (bx : Nat) (k : Str) (x : Int) (w : World) : Prop := w.heap[bx]? = some (.cells #[.string (str k), .int .i64 x] 150)
theorem EntBox.cells {bx : Nat} {k : Str} {x : Int} {w : World} (h : EntBox bx k x w) : w.cell? ⟨bx, 0, none⟩ = some (.string (str k)) ∧ w.cell? ⟨bx, 1, none⟩ = some (.int .i64 x) := by
  constructor <;> · rw [cell_of_row _ _ _ _ _ _ h]; rfl
theorem EntBox.ext {bx : Nat} {k : Str} {x : Int} {w w' : World} (h : EntBox bx k x w) (hE : Ext w w') : EntBox bx k x w' := (hE.block bx (Array.getElem?_eq_some_iff.1 h).1).trans h
structure PutIs (w : World) (bs : List UInt8) (e : Ending) (w' : World) : Prop where
  ext : Ext w w'
  ex : ∃ v, e = .returned v ∧ OB w' w.heap.size v bs
set_option maxRecDepth 100000 in
set_option maxHeartbeats 4000000 in
theorem setPut_at {w : World} {S : Nat → Prop} {p : Nat} {L : List Pc} (h : SetIs w S p L) (hf : PutFit (viewP L)) :
    Calls Tryz.prog 52 #[.pointer (some ⟨p, 0, none⟩)] w fun e w' => PutIs w (setB (viewP L)) e w' := by
  obtain ⟨A, c, hc, hrow⟩ := h.row
  have c0 : w.cell? ⟨p, 0, none⟩ = some (.slice A L.length c) := by rw [cell_of_row _ _ _ _ _ _ hc]; rfl
  have hnc := hrow.2.1
  have hcm := hrow.2.2.1
  have hl : L.length ≤ 4 := by have := hf.few; unfold viewP at this; rwa [List.length_map] at this
  have H := hid h; have Hf := hid hf
  have HRow := hid (show SlR Rep.ptr w (· < w.heap.size) A L.length c (L.map (·.s)) from hrow.mono fun k hk => hk.1)
  clear h hf hc hrow
  generalize hn : L.length = n at *
  have Hn := hid hn
  clear hn
  go_enter Tryz.func52, Tryz.ntmps52
  go_wp2_with fail
  clear c0
  go_loopw [3, 14] (fun u i wr => ∃ k : Nat, k ≤ n ∧ i = .int .i64 (k : Int) ∧ Hid (OB wr w.heap.size u (setB ((viewP L).take k))) ∧ Hid (Ext w wr)) (fun _ i _ => n - (intOf i).toNat)
  case atStart => exact ⟨0, by omega, rfl, hid (World.ownsRow_nil w w.heap.size 5 1), hid (Below.refl _ _)⟩
  case round =>
    obtain ⟨k, hk, rfl, HO, HE⟩ := hrel
    by_cases hlt : k < n
    · have hkx : k < L.length := by have := Hn.out; omega
      have hlt' : (k : Int) < (n : Int) := by omega
      have hk00 : ¬ ((k : Int) < 0) := by omega
      have hk0 : (0 : Int) ≤ (k : Int) := by omega
      obtain ⟨b, o, rfl, -, f0⟩ := ptr_at (HRow.out.grow HE.out) k (by rw [List.length_map]; exact hkx)
      rw [List.getElem_map] at f0
      have hx := (H.out.ext HE.out).pcs.each _ (List.getElem_mem hkx)
      have hvl : k < (viewP L).length := by unfold viewP; rw [List.length_map]; exact hkx
      have hvk : (viewP L)[k] = (L[k].d, L[k].D) := by simp only [viewP, List.getElem_map]
      have hfr := Hf.out.row _ (List.getElem_mem hvl)
      have Hnx := hid (setB_next hvl)
      have Hlen := hid (Hf.out.len k)
      rw [hvk] at hfr
      have Hvk := hid (show setB ((viewP L).take (k + 1)) = setB ((viewP L).take k) ++ stB L[k].D by rw [Hnx.out, hvk])
      have hcc := entries_at hx (by have := hfr.len; dsimp only at this; omega)
      clear hvk hx hvl Hnx
      generalize L[k] = x at *
      obtain ⟨b1, hb1⟩ : ∃ z, z = setB ((viewP L).take (k + 1)) := ⟨_, rfl⟩
      rw [← hb1] at Hvk
      have Hb1 := hid hb1
      clear hb1
      generalize setB ((viewP L).take k) = b0 at *
      generalize hDD : x.D = D at *
      dsimp only at hfr
      have Hfr := hid hfr
      clear hfr hDD
      go_wp2_with fail
      refine hcc.mono ?_
      clear hcc f0
      rintro e w1 ⟨v, rfl, hO1, hE1⟩
      obtain ⟨Aa, ca, rfl, hRa⟩ := ownK_out (S := fun _ => False) hO1 (fun k hk => hk.elim) (fun k hk => hk.elim)
      have HRa := hid (show SlR REnt w1 (· < w1.heap.size) Aa D.length ca D from hRa.mono fun k hk => hk.1)
      have HO1 := hid (OB.below HO.out hE1); have HE1 := hid (HE.out.trans' hE1)
      have hlD := Hfr.out.len
      have hnD := hRa.2.1
      have hmD := hRa.2.2.1
      clear hO1 hRa hE1 HO
      obtain ⟨Ab, nb, cb, rfl, hbn, hbc, hbr⟩ := HO1.out.rd
      have hput := numPut_at hbn hbc hbr (by have := Hlen.out; omega) (D.length : Int) (by unfold I64; omega)
      have Hel := hid (encB_len (x := (D.length : Int)) (by omega))
      have Hst := hid (show b0 ++ encB (D.length : Int) ++ rowB D = b1 by rw [Hvk.out, List.append_assoc]; rfl)
      clear hbn hbc hbr
      generalize hnn : D.length = nD at *
      have HnD := hid hnn
      clear hnn
      go_wp2_with fail
      refine hput.mono ?_
      clear hput
      rintro e w2 ⟨v, rfl, hO2, hE2⟩
      have HO2 := hid (show OB w2 w.heap.size v (b0 ++ encB (nD : Int) ++ rowB (D.take 0)) from by
        have := OB.base hO2 (base' := w.heap.size) HE1.out.size
        rw [show rowB (D.take 0) = [] from rfl, List.append_nil]; exact this)
      have HE2 := hid (HE1.out.trans' hE2)
      have HRb := hid (HRa.out.grow hE2)
      clear hO2 hE2
      go_wp2_with fail
      go_loopw [3, 26] (fun u i wr => ∃ j : Nat, j ≤ nD ∧ i = .int .i64 (j : Int) ∧ Hid (OB wr w.heap.size u (b0 ++ encB (nD : Int) ++ rowB (D.take j))) ∧ Hid (Ext w wr) ∧ Hid (SlR REnt wr (· < wr.heap.size) Aa nD ca D)) (fun _ i _ => nD - (intOf i).toNat)
      case atStart => exact ⟨0, by omega, rfl, HO2, HE2, HRb⟩
      case round =>
        obtain ⟨j, hj, rfl, HO, HEj, HRj⟩ := hrel
        by_cases hjn : j < nD
        · have hjx : j < D.length := by have := HnD.out; omega
          have hjn' : (j : Int) < (nD : Int) := by omega
          have hj00 : ¬ ((j : Int) < 0) := by omega
          have hj0 : (0 : Int) ≤ (j : Int) := by omega
          obtain ⟨b', o', rfl, -, g0, g1, -⟩ := field_at HRj.out j hjx
          have hkey := Hfr.out.key _ (List.getElem_mem hjx)
          have hnum := Hfr.out.num _ (List.getElem_mem hjx)
          have Hnx := hid (rowB_next hjx)
          have Hrl := hid (Hfr.out.row j)
          generalize D[j] = y at *
          obtain ⟨key, num⟩ := y
          dsimp only at g0 g1 hkey hnum
          have Hbx := hid (show EntBox wr.heap.size key num (wr.alloc (.cells #[.string (str key), .int .i64 num] 150)) from heap_alloc_last _ _)
          have hE3 := ext_alloc wr (.cells #[.string (str key), .int .i64 num] 150)
          have HO3 := hid (OB.below HO.out hE3)
          have HE3 := hid (HEj.out.trans' hE3)
          have HR3 := hid (HRj.out.grow hE3)
          have Hkey := hid hkey; have Hnum := hid hnum
          obtain ⟨pre2, hp2⟩ : ∃ z, z = b0 ++ encB (nD : Int) ++ rowB (D.take j) ++ encT key := ⟨_, rfl⟩
          have Hpre := hid (show pre2 ++ encB num = b0 ++ encB (nD : Int) ++ rowB (D.take (j + 1)) by rw [Hnx.out, hp2]; simp only [List.append_assoc])
          have Hp2 := hid hp2
          clear hp2
          have Hpl := hid (show (b0 ++ encB (nD : Int) ++ rowB (D.take j)).length ≤ 900000000 by rw [List.length_append, List.length_append]; have := Hel.out; have := Hlen.out; have := Hrl.out; omega)
          clear hE3 hkey hnum Hnx Hrl HO
          obtain ⟨pre1, hp1⟩ : ∃ z, z = b0 ++ encB (nD : Int) ++ rowB (D.take (j + 1)) := ⟨_, rfl⟩
          rw [← hp1] at Hpre
          have Hp1 := hid hp1
          clear hp1
          generalize b0 ++ encB (nD : Int) ++ rowB (D.take j) = pre at *
          go_wp2_with fail
          clear g0 g1
          generalize hbx : wr.heap.size = bx at *
          clear hbx
          generalize wr.alloc (.cells #[.string (str key), .int .i64 num] 150) = w3 at *
          obtain ⟨Ac, nc', cc, rfl, hcn, hcc', hcr⟩ := HO3.out.rd
          have HN3 := hid (And.intro hcn (And.intro hcc' hcr))
          clear hcn hcc' hcr
          apply wp_drawn_last 7 [isV _, isV _, isV _, obX w.heap.size pre2, isV _, isV _, obX w.heap.size pre1] (by decide) (by kernel_rfl)
          · kernel_rfl
          · kernel_rfl
          · refine ⟨?pps0, ?pps1, ?pps2, ?pps3, ?pps4, ?pps5, ?pps6, trivial⟩
            case pps0 =>
              intro v W hE hd; simp only [Region.wanted, ↓reduceIte]; (try simp [deps, waitsOn, Region.binds, knowing, isV, ownsV, anyV] at hd); simp only [putAll, List.take_succ_cons, List.take_zero, List.drop_succ_cons, List.drop_zero, Act.put, List.setIfInBounds_toArray, List.set_cons_zero, List.set_cons_succ, Nat.zero_add, Nat.reduceAdd]; go_simp; exact ⟨Below.refl _ _, rfl⟩
            case pps1 =>
              intro v W hE hd; simp only [Region.wanted, ↓reduceIte]; (try simp [deps, waitsOn, Region.binds, knowing, isV, ownsV, anyV] at hd); simp only [putAll, List.take_succ_cons, List.take_zero, List.drop_succ_cons, List.drop_zero, Act.put, List.setIfInBounds_toArray, List.set_cons_zero, List.set_cons_succ, Nat.zero_add, Nat.reduceAdd]; go_simp; exact ⟨Below.refl _ _, rfl⟩
            case pps2 =>
              intro v W hE hd; simp only [Region.wanted, ↓reduceIte]; (try simp [deps, waitsOn, Region.binds, knowing, isV, ownsV, anyV] at hd); simp only [putAll, List.take_succ_cons, List.take_zero, List.drop_succ_cons, List.drop_zero, Act.put, List.setIfInBounds_toArray, List.set_cons_zero, List.set_cons_succ, Nat.zero_add, Nat.reduceAdd]
              obtain ⟨x0, x1⟩ := (Hbx.out.ext hE).cells
              go_simp
              exact ⟨Below.refl _ _, rfl⟩
            case pps3 =>
              intro v W hE hd; simp only [Region.wanted, ↓reduceIte]; (try simp [deps, waitsOn, Region.binds, knowing, isV, ownsV, anyV] at hd); simp only [putAll, List.take_succ_cons, List.take_zero, List.drop_succ_cons, List.drop_zero, Act.put, List.setIfInBounds_toArray, List.set_cons_zero, List.set_cons_succ, Nat.zero_add, Nat.reduceAdd]
              have hcc := numPutText_at HN3.out.1 HN3.out.2.1 (RB.below HN3.out.2.2 hE) (by have := Hpl.out; have := HN3.out.1; omega) key (by have := Hkey.out; omega)
              go_simp
              refine hcc.mono ?_
              clear hcc
              rintro e w' ⟨v', rfl, hO, hE2⟩
              have HOo := hid hO; have HEe := hid hE2
              clear hO hE2
              go_simp
              exact ⟨HEe.out, OB.base (by rw [Hp2.out]; exact HOo.out) (by have := hE.size; have := HE3.out.size; omega)⟩
            case pps4 =>
              intro v W hE hd; simp only [Region.wanted, ↓reduceIte]; (try simp [deps, waitsOn, Region.binds, knowing, isV, ownsV, anyV] at hd); simp only [putAll, List.take_succ_cons, List.take_zero, List.drop_succ_cons, List.drop_zero, Act.put, List.setIfInBounds_toArray, List.set_cons_zero, List.set_cons_succ, Nat.zero_add, Nat.reduceAdd]; go_simp; exact ⟨Below.refl _ _, rfl⟩
            case pps5 =>
              intro v W hE hd; simp only [Region.wanted, ↓reduceIte]; (try simp [deps, waitsOn, Region.binds, knowing, isV, ownsV, anyV] at hd); simp only [putAll, List.take_succ_cons, List.take_zero, List.drop_succ_cons, List.drop_zero, Act.put, List.setIfInBounds_toArray, List.set_cons_zero, List.set_cons_succ, Nat.zero_add, Nat.reduceAdd]
              obtain ⟨x0, x1⟩ := (Hbx.out.ext hE).cells
              go_simp
              exact ⟨Below.refl _ _, rfl⟩
            case pps6 =>
              intro v W hE hd; simp only [Region.wanted, ↓reduceIte]; (try simp [deps, waitsOn, Region.binds, knowing, isV, ownsV, anyV] at hd); simp only [putAll, List.take_succ_cons, List.take_zero, List.drop_succ_cons, List.drop_zero, Act.put, List.setIfInBounds_toArray, List.set_cons_zero, List.set_cons_succ, Nat.zero_add, Nat.reduceAdd]
              obtain ⟨h3, h5, -⟩ := hd
              obtain ⟨A', n', c', h3e, hn', hc', hR'⟩ := OB.rd (show OB W w.heap.size (v 3) pre2 from h3)
              rw [h3e, h5]
              have hel := encT_len (s := key) (by have := Hkey.out; omega)
              have hcc := numPut_at hn' hc' hR' (by have h1 := congrArg List.length Hp2.out; rw [List.length_append] at h1; have := Hpl.out; have := Hkey.out; omega) num Hnum.out
              clear hR' h3 hn' hel hc'
              go_simp
              refine hcc.mono ?_
              clear hcc
              rintro e w' ⟨v', rfl, hO, hE2⟩
              have HOo := hid hO; have HEe := hid hE2
              clear hO hE2
              go_simp
              exact ⟨HEe.out, OB.base (by rw [← Hpre.out]; exact HOo.out) (by have := hE.size; have := HE3.out.size; omega)⟩
          · rintro v W9 hE ⟨-, -, -, -, -, -, e6, -⟩
            have e6 := (show _ from e6)
            simp only [putAll, List.take_succ_cons, List.take_zero, List.drop_succ_cons, List.drop_zero, Act.put, List.setIfInBounds_toArray, List.set_cons_zero, List.set_cons_succ, Nat.zero_add, Nat.reduceAdd]
            have HOf := hid (show OB W9 w.heap.size (v 6) pre1 from e6)
            have HEf := hid (HE3.out.trans' hE)
            have HRf := hid (HR3.out.grow hE)
            clear e6 hE
            go_wp2_with fail
            go_roundw
            case rel => exact ⟨j + 1, by omega, by go_num, by rw [← Hp1.out]; exact HOf, HEf, HRf⟩
            case measure => simp [intOf]; omega
        · obtain rfl : j = nD := by omega
          have hjn' : ¬ ((j : Int) < (j : Int)) := by omega
          have HOz := hid (show OB wr w.heap.size u3 b1 from by
            have := HO.out
            rw [List.take_of_length_le (by have := HnD.out; omega), Hst.out] at this
            exact this)
          go_wp2_with fail
          go_roundw
          case rel => exact ⟨k + 1, by omega, by go_num, by rw [← Hb1.out]; exact HOz, HEj⟩
          case measure => simp [intOf]; omega
    · obtain rfl : k = n := by omega
      have hlt' : ¬ ((k : Int) < (k : Int)) := by omega
      have HOz := hid (show OB wr w.heap.size u3 (setB (viewP L)) from by
        have := HO.out
        rw [List.take_of_length_le (by unfold viewP; rw [List.length_map]; have := Hn.out; omega)] at this
        exact this)
      go_wp2
      go_ret
      exact ⟨HE.out, _, rfl, HOz.out⟩
end Go.Proofs.YtakebdeldndaaaaGreatDoor

/- proj.Set.Entries, Many; the laws' recs. -/
namespace Go.Proofs.YtakebdeldndaaaaGreatDoor
open Go Go.RowKit
set_option linter.unusedSimpArgs false
set_option linter.unusedVariables false

set_option maxRecDepth 100000 in
theorem setMany_at {w : World} {S : Nat → Prop} {p : Nat} {L : List Pc} (h : SetIs w S p L) :
    Calls Tryz.prog 33 #[.pointer (some ⟨p, 0, none⟩)] w fun e w' => e = .returned (.int .i64 (L.length : Int)) ∧ w' = w := by
  obtain ⟨A, c, hc, hrow⟩ := h.row
  have c0 : w.cell? ⟨p, 0, none⟩ = some (.slice A L.length c) := by rw [cell_of_row _ _ _ _ _ _ hc]; rfl
  clear h hc hrow
  go_enter Tryz.func33, Tryz.ntmps33
  go_wp2
  go_ret
  exact ⟨rfl, rfl⟩
theorem rec_mk {w : World} {K : Nat → Prop} {ps vr : Int} {e : EvV} {A B : Option Addr} {n c m d : Nat} (h1 : Short e.st) (h2 : Short e.ty) (ht : SlR Rep.txt w K A n c e.tags) (hf : SlR RField w K B m d e.fields) : RRec.rel w K (ps, vr, e) [.int .i64 ps, .int .i64 vr, .string (str e.st), .string (str e.ty), .slice A n c, .slice B m d] :=
  ⟨[.int .i64 ps], _, rfl, rfl, [.int .i64 vr], _, rfl, rfl, ev_mk h1 h2 ht hf⟩
end Go.Proofs.YtakebdeldndaaaaGreatDoor

/- Two sets side by side. -/
namespace Go.Proofs.YtakebdeldndaaaaGreatDoor
open Go Go.RowKit
set_option linter.unusedSimpArgs false
set_option linter.unusedVariables false

def RowNe (w : World) (p : Nat) (L : List Pc) (b : Nat) : Prop := ∀ A c, w.heap[p]? = some (.cells #[.slice A L.length c] 126) → SlR Rep.ptr w (fun k => Free L p w k ∧ k ≠ b) A L.length c (L.map (·.s))
structure Duo (n0 : Nat) (w : World) (S : Nat → Prop) (p : Nat) (L : List Pc) (q : Nat) (M : List Pc) : Prop where
  A : SetIs w S p L
  B : SetIs w S q M
  rA : RowNe w p L q
  rB : RowNe w q M p
  ne : p ≠ q
  fA : ¬ Blk L q
  fB : ¬ Blk M p
  lt : ∀ k, S k → k < w.heap.size
  lo : ∀ k, S k → n0 ≤ k
section
variable {n0 : Nat} {w w' : World} {S S' : Nat → Prop} {p q : Nat} {L M : List Pc}
theorem Duo.swap (h : Duo n0 w S p L q M) : Duo n0 w S q M p L := ⟨h.B, h.A, h.rB, h.rA, h.ne.symm, h.fB, h.fA, h.lt, h.lo⟩
theorem rowNe_of_lo {n b : Nat} (h : RowLo w n p L) (hb : b < n) : RowNe w p L b := by
  intro A c hc
  obtain ⟨A', c', h1, h2⟩ := h.row
  rw [h1] at hc
  simp only [Option.some.injEq, Obj.cells.injEq, Array.mk.injEq, List.cons.injEq, Value.slice.injEq, and_true, true_and] at hc
  obtain ⟨rfl, rfl⟩ := hc
  exact h2.mono fun k hk => ⟨hk.1, by have := hk.2; omega⟩
theorem rowNe_of_young {b : Nat} (h : SetIs w S p L) (hb : w.heap.size ≤ b) : RowNe w p L b := by
  intro A c hc
  obtain ⟨A', c', h1, h2⟩ := h.row
  rw [h1] at hc
  simp only [Option.some.injEq, Obj.cells.injEq, Array.mk.injEq, List.cons.injEq, Value.slice.injEq, and_true, true_and] at hc
  obtain ⟨rfl, rfl⟩ := hc
  exact h2.mono fun k hk => ⟨hk, by have := hk.1; omega⟩
theorem RowNe.kept {b : Nat} (h : RowNe w p L b) (hp : p < w.heap.size) (hk : Kept2 b b w w') (hpb : p ≠ b) : RowNe w' p L b := by
  intro A c hc
  rw [hk.block p hp hpb hpb] at hc
  exact ((h A c hc).ext fun k hk' => hk.block k hk'.1.1 hk'.2 hk'.2).mono fun k hk' => ⟨⟨Nat.lt_of_lt_of_le hk'.1.1 hk.size, hk'.1.2⟩, hk'.2⟩
theorem RowNe.ext {b : Nat} (h : RowNe w p L b) (hp : p < w.heap.size) (hE : Ext w w') : RowNe w' p L b := by
  intro A c hc
  rw [hE.block p hp] at hc
  exact ((h A c hc).ext fun k hk' => hE.block k hk'.1.1).mono fun k hk' => ⟨⟨Nat.lt_of_lt_of_le hk'.1.1 hE.size, hk'.1.2⟩, hk'.2⟩
theorem Duo.ext (h : Duo n0 w S p L q M) (hE : Ext w w') : Duo n0 w' S p L q M :=
  ⟨h.A.ext hE, h.B.ext hE, h.rA.ext h.A.lt hE, h.rB.ext h.B.lt hE, h.ne, h.fA, h.fB, fun k hk => Nat.lt_of_lt_of_le (h.lt k hk) hE.size, h.lo⟩
theorem Duo.did {es : List EvV} {x : Ending} (h : Duo n0 w S p L q M) (hD : DidIs w S p L es x w') : ∃ g : Int, x = .returned (.int .i64 g) ∧ ∃ S' L', Duo n0 w' S' p L' q M ∧ ((okAll es (viewP L) = true ∧ g = 0 ∧ viewP L' = runAll es (viewP L)) ∨ (okAll es (viewP L) = false ∧ g = 4 ∧ L' = L)) := by
  rcases hD.ans with ⟨hok, rfl, L', S', h1, h2, h3, h4, h5, h6⟩ | ⟨hok, rfl, hE⟩
  · refine ⟨0, rfl, S', L', ⟨h1, ?_, rowNe_of_lo h5 h.B.lt, h.rB.kept h.B.lt hD.kept h.ne.symm, h.ne, fun hb => by have := h6 q hb; have := h.B.lt; omega, h.fB, fun k hk => (h3 k hk).2, fun k hk => (h3 k hk).1.elim (h.lo k) fun h' => by have := h.lo _ h.A.pIn; have := h.A.lt; omega⟩, .inl ⟨hok, rfl, h2⟩⟩
    have hB : SetIs w S' q M := h.B.more (Below.refl _ _) (fun k hk => (h3 k hk).1) h4
    exact hB.kept hD.kept (h4 _ h.A.pIn) (h4 _ h.A.pIn) ⟨h.fB, h.ne⟩ ⟨h.fB, h.ne⟩ fun A c hc => (h.rB A c hc).mono fun k hk => ⟨hk.1, hk.2, hk.2⟩
  · exact ⟨4, rfl, S, L, h.ext hE, .inr ⟨hok, rfl, rfl⟩⟩
theorem Duo.didB {es : List EvV} {x : Ending} (h : Duo n0 w S p L q M) (hD : DidIs w S q M es x w') : ∃ g : Int, x = .returned (.int .i64 g) ∧ ∃ S' M', Duo n0 w' S' p L q M' ∧ ((okAll es (viewP M) = true ∧ g = 0 ∧ viewP M' = runAll es (viewP M)) ∨ (okAll es (viewP M) = false ∧ g = 4 ∧ M' = M)) := by
  obtain ⟨g, e, S', M', hD', hr⟩ := h.swap.did hD
  exact ⟨g, e, S', M', hD'.swap, hr⟩
end
def FitV (B : Int) (N n : Nat) (V : List (DefV × Ents)) : Prop := 1125899906842624 ≤ B ∧ B + 1000 * (n : Int) ≤ 2305843009213693952 ∧ ∀ x ∈ V, x.2.length ≤ N ∧ FitB B x.2
theorem FitV.run {B : Int} {N n : Nat} {L : List Pc} (h : FitV B N n (viewP L)) (hN : N + 1000 * n + 1000 < 1000000) {m : Nat} (hm : m ≤ n) : ∀ x ∈ L, RunFit x.d x.D B m := fun x hx => by
  obtain ⟨h1, h2, h3⟩ := h
  have := h3 (x.d, x.D) (List.mem_map.2 ⟨x, hx, rfl⟩)
  dsimp only at this
  exact ⟨by have := this.1; omega, this.2, h1, by omega⟩
theorem FitV.next {B : Int} {N n : Nat} {V : List (DefV × Ents)} {es : List EvV} {m k : Nat} (h : FitV B N n V) (hN : N + 1000 * n + 1000 < 1000000) (hs : ∀ e ∈ es, SmallE e) (he : es.length ≤ m) (hk : m + k ≤ n) : FitV (B + 1000 * (m : Int)) (N + 1000 * m) k (runAll es V) := by
  obtain ⟨h1, h2, h3⟩ := h
  refine ⟨by omega, by omega, fun x hx => ?_⟩
  obtain ⟨y, hy, rfl⟩ := List.mem_map.1 hx
  have hy3 := h3 y hy
  have hR : RunFit y.1 y.2 B es.length := ⟨by have := hy3.1; omega, hy3.2, h1, by omega⟩
  have := hR.at_ hs es.length (Nat.le_refl _)
  rw [List.take_length] at this
  dsimp only
  exact ⟨by have := hy3.1; omega, this.2.le (by omega)⟩
theorem evsOf_len (rs : List (Int × Int × EvV)) : (evsOf rs).length = rs.length := List.length_map ..
theorem viewP_len (L : List Pc) : (viewP L).length = L.length := List.length_map ..
theorem runAll_len (es : List EvV) (V : List (DefV × Ents)) : (runAll es V).length = V.length := List.length_map ..
end Go.Proofs.YtakebdeldndaaaaGreatDoor

/- How much states may hold, by the events that ran. Plain. -/
namespace Go.Proofs.YtakebdeldndaaaaGreatDoor
open Go
set_option linter.unusedVariables false

theorem runAll_append (es fs : List EvV) (V : List (DefV × Ents)) : runAll (es ++ fs) V = runAll fs (runAll es V) := by
  unfold runAll
  rw [List.map_map]
  refine List.map_congr_left fun x hx => ?_
  simp only [Function.comp_apply, foldE_append]
structure KeyB (N : Nat) (D : Ents) : Prop where
  len : D.length ≤ N
  key : ∀ p ∈ D, p.1.length ≤ 2001
theorem KeyB.le {N N' : Nat} {D : Ents} (h : KeyB N D) (hn : N ≤ N') : KeyB N' D := ⟨Nat.le_trans h.len hn, h.key⟩
theorem KeyB.set {N : Nat} {D : Ents} (h : KeyB N D) {d : DefV} {k : Str} {n : Int} (hk : k.length ≤ 2001) : KeyB (N + 1) (setF d k n D) :=
  ⟨Nat.le_trans (length_setF d k n D) (by have := h.len; omega), fun p hp => by
    rcases mem_setF hp with e | hp
    · rw [e]; exact hk
    · exact h.key p hp⟩
theorem KeyB.members {d : DefV} {st : Str} (hst : st.length ≤ 1000) : ∀ (ts : List Str) {N : Nat} {D : Ents}, KeyB N D → (∀ t ∈ ts, t.length ≤ 1000) → KeyB (N + ts.length) (membersF d st ts D)
  | [], N, D, h, _ => h
  | t :: ts, N, D, h, ht => by
    have h1 : KeyB (N + 1) (countF d (keyF t st) D) := h.set (by have := ht t (by simp); unfold keyF; simp; omega)
    have := KeyB.members (d := d) hst ts h1 fun t ht' => ht t (by simp [ht'])
    rw [List.length_cons]
    exact this.le (by omega)
theorem KeyB.step {d : DefV} {e : EvV} {N : Nat} {D : Ents} (h : KeyB N D) (hm : mayEv e = 0) : KeyB (N + 6) (StepF d e D).2 := by
  have hs := small_may hm
  have h6 : e.tags.length ≤ 6 := by
    unfold mayEv at hm
    split at hm
    · cases hm
    split at hm
    · cases hm
    rename_i h2
    simp only [Bool.not_eq_true, Bool.or_eq_false_iff, decide_eq_false_iff_not] at h2
    omega
  unfold StepF
  split
  rotate_left
  · exact h.le (by omega)
  unfold stepF
  split
  · unfold sumF
    split
    · exact h.le (by omega)
    · exact (h.set (by decide)).le (by omega)
  split
  · show KeyB _ (latestF d e D)
    unfold latestF
    split
    · exact (h.set (by have := hs.st; omega)).le (by omega)
    · exact h.le (by omega)
  split
  · exact (KeyB.members (d := d) hs.st e.tags h hs.tags).le (by omega)
  · exact KeyB.le (h.set (d := d) (k := []) (n := atI D [] + 1) (by decide)) (by omega)
theorem KeyB.run {d : DefV} : ∀ (es : List EvV) {N : Nat} {D : Ents}, KeyB N D → (∀ e ∈ es, mayEv e = 0) → KeyB (N + 6 * es.length) (foldE d D es)
  | [], N, D, h, _ => h
  | e :: es, N, D, h, he => by
    have h1 := KeyB.run (d := d) es (h.step (d := d) (he e (by simp))) fun e he' => he e (by simp [he'])
    rw [List.length_cons]
    exact KeyB.le h1 (by omega)
structure FarV (B : Int) (N n : Nat) (V : List (DefV × Ents)) : Prop where
  few : V.length ≤ 4
  key : ∀ x ∈ V, KeyB N x.2
  fit : ∀ x ∈ V, FitB B x.2
  lo : 1125899906842624 ≤ B
  hi : B + 1000 * (n : Int) ≤ 2305843009213693952
  lim : N + 1000 * n ≤ 900000
theorem FarV.run {B : Int} {N n m : Nat} {L : List Pc} (h : FarV B N n (viewP L)) (hm : m ≤ n) : ∀ x ∈ L, RunFit x.d x.D B m := fun x hx => by
  have hx2 : (x.d, x.D) ∈ viewP L := List.mem_map.2 ⟨x, hx, rfl⟩
  have h1 := (h.key _ hx2).len; have h2 := h.fit _ hx2; have h3 := h.lo; have h4 := h.hi; have h5 := h.lim
  dsimp only at h1 h2
  exact ⟨by omega, h2, h3, by omega⟩
theorem FarV.next {B : Int} {N n : Nat} {V : List (DefV × Ents)} {es : List EvV} {m : Nat} (h : FarV B N n V) (hs : ∀ e ∈ es, mayEv e = 0) (he : es.length ≤ m) (hm : m ≤ n) : FarV (B + 1000 * (m : Int)) (N + 6 * m) (n - m) (runAll es V) := by
  have h4 := h.hi; have h5 := h.lim; have h6 := h.lo
  refine ⟨by rw [runAll_len]; exact h.few, fun x hx => ?_, fun x hx => ?_, by omega, by omega, by omega⟩
  · obtain ⟨y, hy, rfl⟩ := List.mem_map.1 hx
    exact (KeyB.run es (h.key y hy) hs).le (by omega)
  · obtain ⟨y, hy, rfl⟩ := List.mem_map.1 hx
    have hR : RunFit y.1 y.2 B es.length := ⟨by have := (h.key y hy).len; omega, h.fit y hy, h6, by omega⟩
    have := (hR.at_ (fun e he => small_may (hs e he)) es.length (Nat.le_refl _)).2
    rw [List.take_length] at this
    exact this.le (by omega)
theorem farV_new {ds : List DefV} (h : ds.length ≤ 4) : FarV 1125899906842624 0 400 (ds.map fun d => (d, [])) := by
  refine ⟨by rw [List.length_map]; exact h, fun x hx => ?_, fun x hx => ?_, by decide, by decide, by decide⟩
  · obtain ⟨d, -, rfl⟩ := List.mem_map.1 hx
    exact ⟨Nat.le_refl _, fun p hp => by simp at hp⟩
  · obtain ⟨d, -, rfl⟩ := List.mem_map.1 hx
    exact fun p hp => by simp at hp
theorem FarV.put {B : Int} {N n : Nat} {V : List (DefV × Ents)} (h : FarV B N n V) (hN : N ≤ 20000) : PutFit V :=
  ⟨h.few, fun x hx => ⟨Nat.le_trans (h.key x hx).len hN, (h.key x hx).key, fun p hp => by have := h.fit x hx p hp; have := h.hi; unfold I64; omega⟩⟩
theorem FarV.many {B : Int} {N n : Nat} {L : List Pc} (h : FarV B N n (viewP L)) : L.length ≤ 4 := by have := h.few; rwa [viewP_len] at this
end Go.Proofs.YtakebdeldndaaaaGreatDoor

