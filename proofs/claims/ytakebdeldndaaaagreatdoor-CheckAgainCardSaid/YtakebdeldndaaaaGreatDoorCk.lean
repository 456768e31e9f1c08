/- Several texts of this claim's, one behind the other. -/
import Derived.Test.YtakebdeldndaaaaGreatDoorLd
import Derived.Test.YtakebdeldndaaaaGreatDoorQB0
import Derived.Test.YtakebdeldndaaaaGreatDoorCrc
import Derived.Test.YtakebdeldndaaaaGreatDoorPja
import Derived.Test.YtakebdeldndaaaaGreatDoorQcb
import Derived.OwnWalk
import Derived.Test.YtakebdeldndaaaaGreatDoorStore
import Derived.Test.YtakebdeldndaaaaGreatDoorDefMk
import Derived.Test.YtakebdeldndaaaaGreatDoorBo0
/- Checkpoints as bytes. Plain. -/
namespace Go.Proofs.YtakebdeldndaaaaGreatDoor
open Go
set_option linter.unusedVariables false

def ckB (ds : List DefV) (last : Int) (V : List (DefV × Ents)) : List UInt8 := encB last ++ encT (dfsB ds) ++ setB V
def takeO (ds : List DefV) (b : List UInt8) : Option (Int × List Ents) :=
  if Crc.good b = false then none else
    if ((numS (b.take (b.length - 4))).2.2 || (textS (numS (b.take (b.length - 4))).2.1).2.2) = true ∨ (numS (b.take (b.length - 4))).1 < 0 ∨ 1048576 < (numS (b.take (b.length - 4))).1 ∨ (textS (numS (b.take (b.length - 4))).2.1).1 ≠ dfsB ds then none
    else (ldAll ds (textS (numS (b.take (b.length - 4))).2.1).2.1).map fun Es => ((numS (b.take (b.length - 4))).1, Es)
theorem dfsB_len {ds : List DefV} (hd : defsE ds = 0) : (dfsB ds).length ≤ 129850 := by
  obtain ⟨h1, h2⟩ := defsE_zero hd
  have h3 := flat_le (f := dfB) (N := 32460) ds fun x hx => dfB_len (fitD_may (h2 x hx))
  have h4 := encB_len (x := (ds.length : Int)) (by omega)
  unfold dfsB
  rw [List.length_append]
  omega
theorem take_sealed (x : List UInt8) : (Crc.seal_ x).take ((Crc.seal_ x).length - 4) = x := by
  rw [Crc.seal_length, Nat.add_sub_cancel]
  unfold Crc.seal_
  exact List.take_left
theorem take_put {ds : List DefV} {last : Int} {V : List (DefV × Ents)} (hd : defsE ds = 0) (hl : 0 ≤ last ∧ last ≤ 1048576) (hV : V.map (·.1) = ds) (hf : PutFit V) (hok : ∀ x ∈ V, okE x.1 x.2 = true) : takeO ds (Crc.seal_ (ckB ds last V)) = some (last, V.map (·.2)) := by
  have hdl := dfsB_len hd
  have e : ckB ds last V = encB last ++ (encT (dfsB ds) ++ setB V) := by unfold ckB; rw [List.append_assoc]
  unfold takeO
  rw [Crc.good_seal, if_neg (by decide), take_sealed, e, numS_enc (by omega)]
  dsimp only
  rw [textS_enc (by omega)]
  dsimp only
  rw [if_neg (by simp; omega)]
  have := ldAll_row (V := V) fun x hx => ⟨hok x hx, fun p hp => ⟨(hf.row x hx).key p hp, (hf.row x hx).num p hp⟩, by have := (hf.row x hx).len; omega⟩
  rw [hV] at this
  rw [this]
  rfl
theorem take_bad {ds : List DefV} {b : List UInt8} (h : Crc.good b = false) : takeO ds b = none := by
  unfold takeO; rw [if_pos h]
end Go.Proofs.YtakebdeldndaaaaGreatDoor

/- check.Put. -/
namespace Go.Proofs.YtakebdeldndaaaaGreatDoor
open Go Go.RowKit
set_option linter.unusedSimpArgs false
set_option linter.unusedVariables false

structure CkPutIs (w : World) (ds : List DefV) (last : Int) (V : List (DefV × Ents)) (e : Ending) (w' : World) : Prop where
  ext : Ext w w'
  ans : (defsE ds ≠ 0 ∧ e = .returned (.tuple #[.slice none 0 0, .int .i64 (defsE ds)])) ∨
    (defsE ds = 0 ∧ (last < 0 ∨ 1048576 < last ∨ V.length ≠ ds.length) ∧ e = .returned (.tuple #[.slice none 0 0, .int .i64 1])) ∨
    (defsE ds = 0 ∧ (0 ≤ last ∧ last ≤ 1048576 ∧ V.length = ds.length) ∧ ∃ v, e = .returned (.tuple #[v, .int .i64 0]) ∧ OB w' w.heap.size v (Crc.seal_ (ckB ds last V)))
set_option maxRecDepth 100000 in
set_option maxHeartbeats 4000000 in
theorem ckPut_at {w : World} {S : Nat → Prop} {p : Nat} {L : List Pc} (h : SetIs w S p L) {A : Option Addr} {n c : Nat} {ds : List DefV} (hx : SlR RDef w (· < w.heap.size) A n c ds) {last : Int} (hlast : I64 last) (hf : PutFit (viewP L)) (hsz : (setB (viewP L)).length ≤ 10000000) :
    Calls Tryz.prog 32 #[.slice A n c, .int .i64 last, .pointer (some ⟨p, 0, none⟩)] w fun e w' => CkPutIs w ds last (viewP L) e w' := by
  have hn := hid hx.1
  have hnc := hx.2.1
  have hcm := hx.2.2.1
  have H := hid h; have Hf := hid hf; have Hsz := hid hsz; have Hlast := hid hlast
  have hpd := putDefsB_at hx
  have hz := zero_tab
  clear h hx hf hsz hlast
  go_enter Tryz.func32, Tryz.ntmps32
  go_wp2_with fail
  refine hpd.mono ?_
  clear hpd
  rintro e w1 ⟨⟨v0, rfl, hO0⟩, hE⟩
  have HE1 := hid hE
  have HO0 := hid hO0
  clear hE hO0
  by_cases h0 : defsE ds = 0
  rotate_left
  · have Hpost := hid (fun W (hE : Ext w W) => (⟨hE, .inl ⟨h0, rfl⟩⟩ : CkPutIs w ds last (viewP L) (.returned (.tuple #[.slice none 0 0, .int .i64 (defsE ds)])) W))
    generalize defsE ds = me at *
    have hx : (me != 0) = true := by simpa using h0
    have hx2 : (me == 0) = false := by simpa using h0
    clear h0 HO0
    -- refused
    go_wp2
    go_ret2
    exact Hpost.out _ HE1.out
  have H0 := hid h0
  rw [h0]
  have HOp := hid (HO0.out h0)
  clear HO0 h0
  by_cases hl0 : last < 0
  · have Hpost := hid (fun W (hE : Ext w W) => (⟨hE, .inr (.inl ⟨H0.out, .inl hl0, rfl⟩)⟩ : CkPutIs w ds last (viewP L) (.returned (.tuple #[.slice none 0 0, .int .i64 1])) W))
    clear HOp
    -- refused
    go_wp2
    go_ret2
    exact Hpost.out _ HE1.out
  by_cases hl1 : 1048576 < last
  · have Hpost := hid (fun W (hE : Ext w W) => (⟨hE, .inr (.inl ⟨H0.out, .inr (.inl hl1), rfl⟩)⟩ : CkPutIs w ds last (viewP L) (.returned (.tuple #[.slice none 0 0, .int .i64 1])) W))
    clear HOp
    -- refused
    go_wp2
    go_ret2
    exact Hpost.out _ HE1.out
  have hmn := setMany_at (H.out.ext HE1.out)
  have Hvl := hid (viewP_len L)
  generalize hll : L.length = ln at hmn
  have Hll := hid hll
  clear hll
  by_cases hlen : ln = n
  rotate_left
  · have Hpost := hid (fun W (hE : Ext w W) => (⟨hE, .inr (.inl ⟨H0.out, .inr (.inr (by rw [Hvl.out, Hll.out, ← hn.out]; exact hlen)), rfl⟩)⟩ : CkPutIs w ds last (viewP L) (.returned (.tuple #[.slice none 0 0, .int .i64 1])) W))
    have hne : ((ln : Int) != (n : Int)) = true := by simpa using (by omega : ¬ ((ln : Int) = (n : Int)))
    clear HOp hlen
    go_wp2_with fail
    refine hmn.mono ?_
    clear hmn
    rintro e wx ⟨rfl, hw⟩
    obtain rfl : w1 = wx := hw.symm
    clear hw
    -- refused
    go_wp2
    go_ret2
    exact Hpost.out _ HE1.out
  subst hlen
  have hne : ((ln : Int) != (ln : Int)) = false := by simp
  go_wp2_with fail
  refine hmn.mono ?_
  clear hmn
  rintro e wx ⟨rfl, hw⟩
  obtain rfl : w1 = wx := hw.symm
  clear hw
  obtain ⟨Ap, np, cp, rfl, hnp, hcp, hRp⟩ := OB.rd HOp.out
  have HRp := hid hRp; have Hnp := hid hnp
  clear hRp hnp hne
  go_wp2_with fail
  refine (new_calls _).mono ?_
  rintro e w2 ⟨rfl, hb1⟩
  have HB2 := hid (HE1.out.trans' hb1)
  have HRp2 := hid (RB.below HRp.out hb1)
  have Ht := hid (TabAt.new w2)
  have hE3 := ext_alloc w2 (.cells (tabs 256) 120)
  have HE3 := hid (HB2.out.trans' hE3)
  have HRp3 := hid (RB.below HRp2.out hE3)
  have Hw3 := hid (show w2.heap.size < (w2.alloc (.cells (tabs 256) 120)).heap.size by simp)
  clear hb1 hE3
  go_wp2_with (refine wpList_store_tab (w := w2) rfl (.tmp 10) (.tmp 38) rfl rfl rfl ?_)
  generalize w2.alloc (.cells (tabs 256) 120) = w3 at *
  have hdl := dfsB_len H0.out
  have Hdl := hid hdl
  have Hl := hid (show 0 ≤ last ∧ last ≤ 1048576 by omega)
  clear hdl HRp HRp2
  generalize hbp : dfsB ds = bp at *
  have Hbp := hid hbp
  clear hbp
  generalize hbv : setB (viewP L) = bv' at *
  have Hbv := hid hbv
  clear hbv
  apply wp_drawn_last 7 [isV _, obX w3.heap.size (encB last), isV _, isV (.string (str bp)), obX w3.heap.size (encB last ++ encT bp), isV _, obX w.heap.size bv'] (by decide) (by kernel_rfl)
  · kernel_rfl
  · kernel_rfl
  · refine ⟨?cps0, ?cps1, ?cps2, ?cps3, ?cps4, ?cps5, ?cps6, trivial⟩
    case cps0 =>
      intro v W hE hd; simp only [Region.wanted, ↓reduceIte]; (try simp [deps, waitsOn, Region.binds, knowing, isV, ownsV, anyV] at hd); simp only [putAll, List.take_succ_cons, List.take_zero, List.drop_succ_cons, List.drop_zero, Act.put, List.setIfInBounds_toArray, List.set_cons_zero, List.set_cons_succ, Nat.zero_add, Nat.reduceAdd]; go_simp; exact ⟨Below.refl _ _, rfl⟩
    case cps1 =>
      intro v W hE hd; simp only [Region.wanted, ↓reduceIte]; (try simp [deps, waitsOn, Region.binds, knowing, isV, ownsV, anyV] at hd); simp only [putAll, List.take_succ_cons, List.take_zero, List.drop_succ_cons, List.drop_zero, Act.put, List.setIfInBounds_toArray, List.set_cons_zero, List.set_cons_succ, Nat.zero_add, Nat.reduceAdd]
      have hcc := numPut_at (w := W) (A := none) (n := 0) (c := 0) (bs := []) rfl (Nat.le_refl _) (RB.nil _ _) (by omega) last Hlast.out
      rw [List.nil_append] at hcc
      go_simp
      refine hcc.mono ?_
      clear hcc
      rintro e w' ⟨v', rfl, hO, hE2⟩
      have HOo := hid hO; have HEe := hid hE2
      clear hO hE2
      go_simp
      exact ⟨HEe.out, OB.base HOo.out hE.size⟩
    case cps2 =>
      intro v W hE hd; simp only [Region.wanted, ↓reduceIte]; (try simp [deps, waitsOn, Region.binds, knowing, isV, ownsV, anyV] at hd); simp only [putAll, List.take_succ_cons, List.take_zero, List.drop_succ_cons, List.drop_zero, Act.put, List.setIfInBounds_toArray, List.set_cons_zero, List.set_cons_succ, Nat.zero_add, Nat.reduceAdd]; go_simp; exact ⟨Below.refl _ _, rfl⟩
    case cps3 =>
      intro v W hE hd; simp only [Region.wanted, ↓reduceIte]; (try simp [deps, waitsOn, Region.binds, knowing, isV, ownsV, anyV] at hd); simp only [putAll, List.take_succ_cons, List.take_zero, List.drop_succ_cons, List.drop_zero, Act.put, List.setIfInBounds_toArray, List.set_cons_zero, List.set_cons_succ, Nat.zero_add, Nat.reduceAdd]
      have hs := run_str (RB.below HRp3.out hE) cp
      rw [← Hnp.out] at hs
      go_simp
      exact ⟨Below.refl _ _, rfl⟩
    case cps4 =>
      intro v W hE hd; simp only [Region.wanted, ↓reduceIte]; (try simp [deps, waitsOn, Region.binds, knowing, isV, ownsV, anyV] at hd); simp only [putAll, List.take_succ_cons, List.take_zero, List.drop_succ_cons, List.drop_zero, Act.put, List.setIfInBounds_toArray, List.set_cons_zero, List.set_cons_succ, Nat.zero_add, Nat.reduceAdd]
      obtain ⟨h1, h3⟩ := hd
      obtain ⟨A3, n3, c3, e3, hn3, hc3, hr3⟩ := OB.rd (show OB W w3.heap.size (v 1) (encB last) from h1)
      have hel := encB_len (x := last) (by have := Hl.out; omega)
      have h3' : v 3 = .string (str bp) := by first | exact h3 | exact h3.1
      rw [e3, h3']
      have hcc := numPutText_at hn3 hc3 hr3 (by omega) bp (by have := Hdl.out; omega)
      clear h1 hn3 hr3 hel h3
      go_simp
      refine hcc.mono ?_
      clear hcc
      rintro e w' ⟨v', rfl, hO, hE2⟩
      have HOo := hid hO; have HEe := hid hE2
      clear hO hE2
      go_simp
      exact ⟨HEe.out, OB.base HOo.out hE.size⟩
    case cps5 =>
      intro v W hE hd; simp only [Region.wanted, ↓reduceIte]; (try simp [deps, waitsOn, Region.binds, knowing, isV, ownsV, anyV] at hd); simp only [putAll, List.take_succ_cons, List.take_zero, List.drop_succ_cons, List.drop_zero, Act.put, List.setIfInBounds_toArray, List.set_cons_zero, List.set_cons_succ, Nat.zero_add, Nat.reduceAdd]; go_simp; exact ⟨Below.refl _ _, rfl⟩
    case cps6 =>
      intro v W hE hd; simp only [Region.wanted, ↓reduceIte]; (try simp [deps, waitsOn, Region.binds, knowing, isV, ownsV, anyV] at hd); simp only [putAll, List.take_succ_cons, List.take_zero, List.drop_succ_cons, List.drop_zero, Act.put, List.setIfInBounds_toArray, List.set_cons_zero, List.set_cons_succ, Nat.zero_add, Nat.reduceAdd]
      have hcc := setPut_at (H.out.ext (HE3.out.trans' hE)) Hf.out
      rw [Hbv.out] at hcc
      go_simp
      refine hcc.mono ?_
      clear hcc
      rintro e w' ⟨hE2, v', rfl, hO⟩
      have HOo := hid hO; have HEe := hid hE2
      clear hO hE2
      go_simp
      exact ⟨HEe.out, OB.base HOo.out (by have := hE.size; have := HE3.out.size; omega)⟩
  · rintro v W9 hE ⟨-, -, -, -, e4, -, e6, -⟩
    have e4 := (show _ from e4)
    have e6 := (show _ from e6)
    simp only [putAll, List.take_succ_cons, List.take_zero, List.drop_succ_cons, List.drop_zero, Act.put, List.setIfInBounds_toArray, List.set_cons_zero, List.set_cons_succ, Nat.zero_add, Nat.reduceAdd]
    have hO4 : OB W9 w3.heap.size (v 4) (encB last ++ encT bp) := e4
    obtain ⟨A4, n4, c4, x4, hn4, hc4, hr4⟩ := OB.rd hO4
    obtain ⟨A6, n6, c6, x6, hn6, hc6, hr6⟩ := OB.rd (show OB W9 w.heap.size (v 6) bv' from e6)
    rw [x4] at hO4
    rw [x4, x6]
    have HO4 := hid hO4
    have HEx := hid (HE3.out.trans' hE)
    have HR6 := hid hr6
    have Hn6 := hid hn6
    have Htb := hid (Ht.out.below hE)
    have hs9 := hE.size
    have HE9 := hid hE
    have hw3 := Hw3.out
    have hel := encB_len (x := last) (by have := Hl.out; omega)
    have het := encT_len (s := bp) (by have := Hdl.out; omega)
    have Hll2 := hid (show (encB last ++ encT bp).length + n6 ≤ 100000000 by rw [hn6, List.length_append]; have := Hdl.out; have := Hsz.out; omega)
    clear e4 e6 x4 x6 hO4 hr4 hr6 hn6 hel het hE
    go_wp2_with (at_builtin; refine wpList_appB (w0 := w3) rfl (.tmp 43) (.tmp 45) rfl w3.heap.size _ (encB last ++ encT bp) rfl HO4 HE9 hs9 A6 c6 n6 bv' rfl Hn6 HR6 (by have := Hll2.out; omega) ?_; intro v7 w7 HO7 HB7 HG7; obtain ⟨A7, n7, c7, rfl, hn7, hc7, hr7⟩ := OB.rd HO7.out; have Hn7 := hid hn7; have Hr7 := hid hr7; clear hn7 hr7)
    have Htb7 := hid (show TabAt w7 w2.heap.size from fun i hi => by
      have h1 := Htb.out i hi
      have h2 := HG7.out.grown.block w2.heap.size (by omega) (fun e => by have := (World.ownsRow.lt HO4.out w2.heap.size e.symm).1; omega)
      have e : w7.cell? ⟨w2.heap.size, i, none⟩ = W9.cell? ⟨w2.heap.size, i, none⟩ := by unfold World.cell?; dsimp only; rw [h2]
      rw [e]; exact h1)
    have hcc := seal_at w2.heap.size A7 n7 c7 (encB last ++ encT bp ++ bv') w7 Hn7.out (by rw [Hn7.out, List.length_append, ← Hn6.out]; have := Hll2.out; omega) Htb7.out Hr7.out
    refine hcc.mono ?_
    clear hcc
    rintro e w8 ⟨v8, rfl, hO8, hB8⟩
    have HO8 := hid hO8
    have HB8 := hid (Ext.trans' (Ext.trans' HE3.out HB7.out) hB8)
    clear hO8 hB8
    go_wp2
    go_ret2
    refine ⟨HB8.out, .inr (.inr ⟨H0.out, ⟨Hl.out.1, Hl.out.2, by rw [Hvl.out, Hll.out, ← hn.out]⟩, v8, rfl, ?_⟩)⟩
    have := OB.base HO8.out (show w.heap.size ≤ w7.heap.size from Nat.le_trans HE3.out.size HB7.out.size)
    unfold ckB
    rw [Hbp.out, Hbv.out]
    exact this
end Go.Proofs.YtakebdeldndaaaaGreatDoor

/- check.Take. -/
namespace Go.Proofs.YtakebdeldndaaaaGreatDoor
open Go Go.RowKit
set_option linter.unusedSimpArgs false
set_option linter.unusedVariables false

structure Hi (n0 : Nat) (w : World) (p : Nat) (L : List Pc) : Prop where
  set : ∃ S, SetIs w S p L ∧ ∀ k, k < n0 → S k
  row : RowLo w n0 p L
  lo : ∀ k, Blk L k ∨ k = p → n0 ≤ k
theorem RowLo.kept {w w' : World} {n p d m : Nat} {L : List Pc} (h : RowLo w n p L) (hk : Kept2 d m w w') (hd : d < n) (hm : m < n) (hp : n ≤ p) : RowLo w' n p L := by
  obtain ⟨A, c, h1, h2⟩ := h.row
  exact ⟨A, c, (hk.block p (Array.getElem?_eq_some_iff.1 h1).1 (by omega) (by omega)).trans h1, (h2.ext fun k hk' => hk.block k hk'.1.1 (by have := hk'.2; omega) (by have := hk'.2; omega)).mono fun k hk' => ⟨⟨Nat.lt_of_lt_of_le hk'.1.1 hk.size, hk'.1.2⟩, hk'.2⟩⟩
theorem Hi.kept {w w' : World} {n0 p d m : Nat} {L : List Pc} (h : Hi n0 w p L) (hk : Kept2 d m w w') (hd : d < n0) (hm : m < n0) : Hi n0 w' p L := by
  obtain ⟨⟨S, h1, h2⟩, hR, hb⟩ := h
  have hp := hb p (.inr rfl)
  refine ⟨⟨S, h1.kept hk (h2 d hd) (h2 m hm) ⟨fun hx => by have := hb d (.inl hx); omega, by omega⟩ ⟨fun hx => by have := hb m (.inl hx); omega, by omega⟩ fun A c hc => ?_, h2⟩, hR.kept hk hd hm hp, hb⟩
  obtain ⟨A', c', g1, g2⟩ := hR.row
  rw [g1] at hc
  simp only [Option.some.injEq, Obj.cells.injEq, Array.mk.injEq, List.cons.injEq, Value.slice.injEq, and_true, true_and] at hc
  obtain ⟨rfl, rfl⟩ := hc
  exact g2.mono fun k hk => ⟨hk.1, by have := hk.2; omega, by have := hk.2; omega⟩
theorem Hi.ext {w w' : World} {n0 p : Nat} {L : List Pc} (h : Hi n0 w p L) (hE : Ext w w') : Hi n0 w' p L := by
  obtain ⟨⟨S, h1, h2⟩, hR, hb⟩ := h
  exact ⟨⟨S, h1.ext hE, h2⟩, hR.ext hE, hb⟩
theorem Hi.down {w : World} {n n0 p : Nat} {L : List Pc} (h : Hi n0 w p L) (hn : n ≤ n0) : Hi n w p L := by
  obtain ⟨⟨S, h1, h2⟩, hR, hb⟩ := h
  exact ⟨⟨S, h1, fun k hk => h2 k (by omega)⟩, hR.down hn, fun k hk => by have := hb k hk; omega⟩
structure Take2Is (w : World) (ds : List DefV) (b : List UInt8) (e : Ending) (w' : World) : Prop where
  ext : Ext w w'
  ans : (defsE ds ≠ 0 ∧ e = .returned (.tuple #[.int .i64 0, .pointer none, .int .i64 (defsE ds)])) ∨
    (defsE ds = 0 ∧ takeO ds b = none ∧ e = .returned (.tuple #[.int .i64 0, .pointer none, .int .i64 2])) ∨
    (defsE ds = 0 ∧ ∃ last Es p L S, takeO ds b = some (last, Es) ∧ e = .returned (.tuple #[.int .i64 last, .pointer (some ⟨p, 0, none⟩), .int .i64 0]) ∧ One w.heap.size w' S p L ∧ viewP L = ds.zip Es ∧ Hi w.heap.size w' p L)
theorem read_pos {x : List UInt8} (h1 : (numS x).2.2 = false) (h2 : (textS (numS x).2.1).2.2 = false) : (textS (numS x).2.1).2.1.length ≤ x.length ∧ x.drop (x.length - (textS (numS x).2.1).2.1.length) = (textS (numS x).2.1).2.1 := by
  have k1 := (numS_ok (bs := x) (x := (numS x).1) (r := (numS x).2.1) (by rw [← h1])).1
  have k2 := textS_ok (bs := (numS x).2.1) (t := (textS (numS x).2.1).1) (r := (textS (numS x).2.1).2.1) (by rw [← h2])
  generalize (textS (numS x).2.1).2.1 = rest at *
  generalize (textS (numS x).2.1).1 = t at *
  generalize (numS x).2.1 = y at *
  subst k2
  rw [← List.append_assoc] at k1
  generalize encB (numS x).1 ++ encT t = pre at *
  refine ⟨by rw [k1, List.length_append]; omega, ?_⟩
  have e : x.length - rest.length = pre.length := by rw [k1, List.length_append]; omega
  rw [e, k1]
  exact List.drop_left
set_option maxRecDepth 100000 in
set_option maxHeartbeats 4000000 in
theorem ckTake2_at {w : World} {A : Option Addr} {n c : Nat} {ds : List DefV} (hx : SlR RDef w (· < w.heap.size) A n c ds) {B : Option Addr} {m d : Nat} {b : List UInt8} (hm : m = b.length) (hmd : m ≤ d) (hb : RB w B b) (hlen : m ≤ 1800000) :
    Calls Tryz.prog 43 #[.slice A n c, .slice B m d] w fun e w' => Take2Is w ds b e w' := by
  have HX := hid hx
  have Hm := hid hm
  have Hb := hid hb
  have hpd := putDefsB_at hx
  have hz := zero_tab
  clear hx hb hm
  go_enter Tryz.func43, Tryz.ntmps43
  go_wp2_with fail
  refine hpd.mono ?_
  clear hpd
  rintro e w1 ⟨⟨v0, rfl, hO0⟩, hE⟩
  have HE1 := hid hE
  have HO0 := hid hO0
  clear hE hO0
  by_cases h0 : defsE ds = 0
  rotate_left
  · have Hpost := hid (fun W (hE : Ext w W) => (⟨hE, .inl ⟨h0, rfl⟩⟩ : Take2Is w ds b (.returned (.tuple #[.int .i64 0, .pointer none, .int .i64 (defsE ds)])) W))
    generalize defsE ds = me at *
    have hx : (me != 0) = true := by simpa using h0
    have hx2 : (me == 0) = false := by simpa using h0
    clear h0 HO0
    go_wp2
    go_ret3
    exact Hpost.out _ HE1.out
  have H0 := hid h0
  rw [h0]
  have HOp := hid (HO0.out h0)
  clear HO0 h0
  obtain ⟨Ap, np, cp, rfl, hnp, hcp, hRp⟩ := OB.rd HOp.out
  have HRp := hid hRp; have Hnp := hid hnp
  clear hRp hnp HOp
  go_wp2_with fail
  refine (new_calls _).mono ?_
  rintro e w2 ⟨rfl, hb1⟩
  have HB2 := hid (HE1.out.trans' hb1)
  have Ht := hid (TabAt.new w2)
  have hE3 := ext_alloc w2 (.cells (tabs 256) 120)
  have HE3 := hid (HB2.out.trans' hE3)
  have HRp3 := hid (RB.below (RB.below HRp.out hb1) hE3)
  clear hb1 hE3 HRp HB2
  go_wp2_with (refine wpList_store_tab (w := w2) rfl (.tmp 9) (.tmp 23) rfl rfl rfl ?_)
  generalize w2.alloc (.cells (tabs 256) 120) = w3 at *
  have hcc := open_at w2.heap.size B m d b w3 Hm.out (by omega) hmd Ht.out (RB.below Hb.out HE3.out)
  refine hcc.mono ?_
  clear hcc
  rintro e w4 ⟨⟨v4, rfl, hO4⟩, hB4⟩
  have HEx := hid (HE3.out.trans' hB4)
  have HRp4 := hid (RB.below HRp3.out hB4)
  have hs4 := HE3.out.size
  have Hw3 := hid (show w.heap.size ≤ w3.heap.size from HE3.out.size)
  cases hg : Crc.good b
  · have HNo := hid (take_bad (ds := ds) hg)
    clear hO4 hB4 hg
    -- refused: 2
    have hpost := hid (show Take2Is w ds b (.returned (.tuple #[.int .i64 0, .pointer none, .int .i64 2])) w4 from ⟨HEx.out, .inr (.inl ⟨H0.out, HNo.out, rfl⟩)⟩)
    go_wp2
    go_ret3
    exact hpost.out
  rw [hg, if_pos rfl] at hO4
  have hO4 : OB w4 w3.heap.size v4 (b.take (b.length - 4)) := hO4
  obtain ⟨Ay, cy, ey, hRy⟩ := ob_out (S := fun k => k < w3.heap.size) hO4 (fun k hk => hk)
  obtain ⟨Ax, cx, rfl, hRx⟩ := ob_out (S := fun _ => False) hO4 (fun k hk => hk.elim)
  simp only [Value.slice.injEq] at ey
  obtain ⟨rfl, -, rfl⟩ := ey
  have Hg := hid hg
  have HTk := hid (show takeO ds b = if ((numS (b.take (b.length - 4))).2.2 || (textS (numS (b.take (b.length - 4))).2.1).2.2) = true ∨ (numS (b.take (b.length - 4))).1 < 0 ∨ 1048576 < (numS (b.take (b.length - 4))).1 ∨ (textS (numS (b.take (b.length - 4))).2.1).1 ≠ dfsB ds then none
    else (ldAll ds (textS (numS (b.take (b.length - 4))).2.1).2.1).map fun Es => ((numS (b.take (b.length - 4))).1, Es) from by unfold takeO; rw [hg]; rfl)
  have hlx : (b.take (b.length - 4)).length ≤ 1800000 := by rw [List.length_take]; have := Hm.out; omega
  have Hlx := hid hlx
  clear hO4 hB4 hg hlx
  generalize b.take (b.length - 4) = x at *
  have HRx := hid hRx
  have HRy := hid hRy
  clear hRy
  have hcc := rdNew_at hRx (fun k hk => hk.elim)
  have hxc := hRx.2.1
  have hxm := hRx.2.2.1
  clear hRx
  generalize hxl : x.length = xl at *
  have Hxl := hid hxl
  clear hxl
  go_wp2_with fail
  refine hcc.mono ?_
  clear hcc
  rintro e w5 ⟨rfl, hR, hE5, -⟩
  obtain ⟨r, hr⟩ : ∃ r, r = w4.heap.size := ⟨_, rfl⟩
  have Hr := hid hr
  rw [← hr] at hR ⊢
  clear hr
  have HE5 := hid hE5
  have hcc := rdNum_at hR
  clear hR hE5
  go_wp2_with fail
  refine hcc.mono ?_
  clear hcc
  rintro e w6 ⟨rfl, hR, hK⟩
  have HE6 := hid (show Ext w4 w6 from HE5.out.trans (hK.below (by rw [Hr.out]; exact Nat.le_refl _) (by rw [Hr.out]; exact Nat.le_refl _) HE5.out.size))
  have Hpos := hid (fun h1 h2 => read_pos (x := x) h1 h2)
  have hnl := numS_len x
  have Hnr := hid (numS_range x)
  generalize (numS x).1 = a at *
  generalize (numS x).2.2 = f1 at *
  generalize (numS x).2.1 = y at *
  rw [Bool.false_or] at hR
  have hcc := rdText_at hR (by have := Hlx.out; have := Hxl.out; omega)
  have Hyl := hid (show y.length ≤ 1800000 by have := Hlx.out; have := Hxl.out; omega)
  clear hR hK hnl
  go_wp2_with fail
  refine hcc.mono ?_
  clear hcc
  rintro e w7 ⟨rfl, hR, hK⟩
  have HE7 := hid (show Ext w4 w7 from HE6.out.trans (hK.below (by rw [Hr.out]; exact Nat.le_refl _) (by rw [Hr.out]; exact Nat.le_refl _) HE6.out.size))
  have htl := textS_len y
  generalize (textS y).1 = t at *
  generalize (textS y).2.2 = f2 at *
  generalize (textS y).2.1 = rest at *
  have HRd := hid hR
  have Hrl := hid (show rest.length ≤ 1800000 by have := Hyl.out; omega)
  have HEx := hid (show Ext w w7 from Ext.trans' HEx.out HE7.out)
  have HRp7 := hid (RB.below HRp4.out HE7.out)
  have hcc := rdBad_at hR
  clear hR hK htl HE6 HE5 HRp4
  generalize hfb : (f1 || f2) = fb at *
  have Hfb := hid hfb
  clear hfb
  cases fb
  rotate_left
  · have HNo := hid (show takeO ds b = none by rw [HTk.out, if_pos (.inl rfl)])
    go_wp2_with fail
    refine hcc.mono ?_
    clear hcc
    rintro e wx ⟨rfl, hw⟩
    obtain rfl : w7 = wx := hw.symm
    clear hw
    -- refused: 2
    have hpost := hid (show Take2Is w ds b (.returned (.tuple #[.int .i64 0, .pointer none, .int .i64 2])) w7 from ⟨HEx.out, .inr (.inl ⟨H0.out, HNo.out, rfl⟩)⟩)
    go_wp2
    go_ret3
    exact hpost.out
  by_cases ha0 : a < 0
  · have HNo := hid (show takeO ds b = none by rw [HTk.out, if_pos (.inr (.inl ha0))])
    go_wp2_with fail
    refine hcc.mono ?_
    clear hcc
    rintro e wx ⟨rfl, hw⟩
    obtain rfl : w7 = wx := hw.symm
    clear hw
    -- refused: 2
    have hpost := hid (show Take2Is w ds b (.returned (.tuple #[.int .i64 0, .pointer none, .int .i64 2])) w7 from ⟨HEx.out, .inr (.inl ⟨H0.out, HNo.out, rfl⟩)⟩)
    go_wp2
    go_ret3
    exact hpost.out
  by_cases ha1 : 1048576 < a
  · have HNo := hid (show takeO ds b = none by rw [HTk.out, if_pos (.inr (.inr (.inl ha1)))])
    go_wp2_with fail
    refine hcc.mono ?_
    clear hcc
    rintro e wx ⟨rfl, hw⟩
    obtain rfl : w7 = wx := hw.symm
    clear hw
    -- refused: 2
    have hpost := hid (show Take2Is w ds b (.returned (.tuple #[.int .i64 0, .pointer none, .int .i64 2])) w7 from ⟨HEx.out, .inr (.inl ⟨H0.out, HNo.out, rfl⟩)⟩)
    go_wp2
    go_ret3
    exact hpost.out
  have hs := run_str HRp7.out cp
  rw [← Hnp.out] at hs
  by_cases htx : t = dfsB ds
  rotate_left
  · have HNo := hid (show takeO ds b = none by rw [HTk.out, if_pos (.inr (.inr (.inr htx)))])
    have hne : ((str t).toList == (str (dfsB ds)).toList) = false := by rw [str_toList, str_toList]; exact beq_eq_false_iff_ne.2 htx
    generalize dfsB ds = bp at *
    clear htx
    go_wp2_with fail
    refine hcc.mono ?_
    clear hcc
    rintro e wx ⟨rfl, hw⟩
    obtain rfl : w7 = wx := hw.symm
    clear hw
    -- refused: 2
    have hpost := hid (show Take2Is w ds b (.returned (.tuple #[.int .i64 0, .pointer none, .int .i64 2])) w7 from ⟨HEx.out, .inr (.inl ⟨H0.out, HNo.out, rfl⟩)⟩)
    go_wp2
    go_ret3
    exact hpost.out
  have HTk2 := hid (show takeO ds b = (ldAll ds rest).map fun Es => (a, Es) from by rw [HTk.out, if_neg (by rintro (h | h | h | h); cases h; exact ha0 h; exact ha1 h; exact h htx)])
  subst htx
  obtain ⟨hf1, hf2⟩ : f1 = false ∧ f2 = false := by have := Hfb.out; simpa using this
  obtain ⟨hp1, hp2⟩ := Hpos.out hf1 hf2
  rw [Hxl.out] at hp1 hp2
  have Hp2 := hid hp2
  generalize dfsB ds = bp at *
  have hnew := projNew2_at (HX.out.grow HEx.out)
  clear HTk Hpos hf1 hf2 hp2 Hfb
  go_wp2_with fail
  refine hcc.mono ?_
  clear hcc
  rintro e wx ⟨rfl, hw⟩
  obtain rfl : w7 = wx := hw.symm
  clear hw
  go_wp2_with fail
  clear hs
  refine hnew.mono ?_
  clear hnew
  rintro e w8 ⟨hE8, hans⟩
  rcases hans with ⟨h, -⟩ | ⟨-, p, L, S, rfl, hS, hv, hR, hSl, hb⟩
  · exact absurd H0.out h
  obtain ⟨hl4, -⟩ := defsE_zero H0.out
  have hs7 := HEx.out.size
  have hwn : w.heap.size ≤ w7.heap.size := hs7
  have HD := hid (show SetIs w8 (fun k => k < w.heap.size ∨ k = p ∨ Blk L k) p L from hS.less (fun k hk => by
    rcases hk with hk | rfl | hk
    · exact hSl k (by omega)
    · exact hS.pIn
    · exact (hS.pcs.lt hk).2) (fun k hk => .inr (.inr hk)) (.inr (.inl rfl)))
  have HSb := hid (show ∀ k, (fun k => k < w.heap.size ∨ k = p ∨ Blk L k) k → k < w8.heap.size from fun k hk => by
    have := hE8.size
    rcases hk with hk | rfl | hk
    · omega
    · exact hS.lt
    · exact (hS.pcs.lt hk).1)
  have HS7 : Hid (∀ k, (fun k => k < w.heap.size ∨ k = p ∨ Blk L k) k → k < w.heap.size ∨ w7.heap.size ≤ k) := hid (fun k hk => by
    rcases hk with hk | hk | hk
    · exact .inl hk
    · exact .inr (hb k (.inr hk)).1
    · exact .inr (hb k (.inl hk)).1)
  have HLo : Hid (∀ k, Blk L k ∨ k = p → w7.heap.size ≤ k) := hid (fun k hk => (hb k hk).1)
  have Hwn := hid hwn
  clear hwn
  have Hds := hid (viewP_ds L ds hv)
  have Hll := hid (show L.length ≤ 4 from by rw [← viewP_len, hv, List.length_map]; exact hl4)
  have HE8 := hid (show Ext w4 w8 from Ext.trans' HE7.out hE8)
  have HEx := hid (show Ext w w8 from Ext.trans' HEx.out hE8)
  have HW8 := hid (show w.heap.size ≤ w8.heap.size from HEx.out.size)
  have hlf := rdLeft_at (HRd.out.ext hE8)
  clear hS hv hR hSl hb hE8 hl4
  have HSw := hid (show ∀ k, k < w.heap.size → (fun k => k < w.heap.size ∨ k = p ∨ Blk L k) k from fun k hk => .inl hk)
  generalize hSS : (fun k => k < w.heap.size ∨ k = p ∨ Blk L k) = SS at *
  clear hSS
  obtain ⟨Al, hAl, hq⟩ := slice_fromK (HRy.out.ext fun k hk => HE8.out.block k hk.1) (xl - rest.length) (by omega)
  rw [Hp2.out, show xl - (xl - rest.length) = rest.length by omega] at hAl
  rw [show xl - (xl - rest.length) = rest.length by omega] at hq
  have hAl2 : SlR Rep.u8 w8 (Out SS w8) Al rest.length (cx - (xl - rest.length)) rest := hAl.mono fun k hk => ⟨Nat.lt_of_lt_of_le hk.1 HE8.out.size, fun h => by have := HS7.out k h; have := HE7.out.size; have := hk.1; have := hk.2; have := Hw3.out; omega⟩
  have hqi : (((xl - rest.length : Nat)) : Int) = (xl : Int) - (rest.length : Int) := by omega
  rw [hqi] at hq
  have hcc := setLoad_at HD.out HSb.out (by have := Hll.out; omega) hAl2 Hrl.out
  clear hAl hAl2 hqi
  generalize hrl : rest.length = rl at *
  have hi0 : (0 : Int) ≤ (xl : Int) - (rl : Int) := by omega
  have hi1 : (xl : Int) - (rl : Int) ≤ (cx : Int) := by omega
  have Hrl2 := hid hrl
  clear hrl
  go_wp2_with fail
  refine hlf.mono ?_
  clear hlf
  rintro e wx ⟨rfl, hw⟩
  obtain rfl : w8 = wx := hw.symm
  clear hw
  go_wp2_with fail
  refine hcc.mono ?_
  clear hcc
  rintro e w9 hD
  have hpl := HLo.out p (.inr rfl)
  have h7n := HE7.out.size
  have HEx := hid (show Ext w w9 from HEx.out.trans (hD.kept.below (by have := Hwn.out; omega) (by have := Hwn.out; omega) HEx.out.size))
  obtain ⟨L9, S9, g1, g2, g3, g4, g5, g6⟩ := hD.ans
  have hlo9 : ∀ k, Blk L9 k ∨ k = p → w.heap.size ≤ k := fun k hk => by
    have := Hwn.out
    have h8 := HE8.out.size
    rcases hk with hk | rfl
    · rcases g5 k hk with h | h
      · have := HLo.out k (.inl h); omega
      · have := HW8.out; omega
    · omega
  have HD9 := hid (show One w.heap.size w9 (fun k => k = p ∨ Blk L9 k) p L9 from one_new g1 fun k hk => ⟨hlo9 k hk, by
    rcases hk with hk | rfl
    · exact (g1.pcs.lt hk).1
    · exact g1.lt⟩)
  have HHi := hid (show Hi w.heap.size w9 p L9 from ⟨⟨S9, g1, fun k hk => g4 k (HSw.out k hk)⟩, g2.down HW8.out, hlo9⟩)
  rw [Hds.out] at g6
  clear hD hpl g1 g2 g3 g4 g5 hlo9 h7n
  rcases g6 with ⟨Es, e1, rfl, e2⟩ | ⟨e1, rfl, -⟩
  · have hpost := hid (show Take2Is w ds b (.returned (.tuple #[.int .i64 a, .pointer (some ⟨p, 0, none⟩), .int .i64 0])) w9 from ⟨HEx.out, .inr (.inr ⟨H0.out, a, Es, p, L9, _, by rw [HTk2.out, e1]; rfl, rfl, HD9.out, e2, HHi.out⟩)⟩)
    clear e1 e2
    go_wp2
    go_ret3
    exact hpost.out
  · have HNo := hid (show takeO ds b = none by rw [HTk2.out, e1]; rfl)
    clear e1
    -- refused: 2
    have hpost := hid (show Take2Is w ds b (.returned (.tuple #[.int .i64 0, .pointer none, .int .i64 2])) w9 from ⟨HEx.out, .inr (.inl ⟨H0.out, HNo.out, rfl⟩)⟩)
    go_wp2
    go_ret3
    exact hpost.out
end Go.Proofs.YtakebdeldndaaaaGreatDoor

/- registrarlaw17: shown, few, states. -/
namespace Go.Proofs.YtakebdeldndaaaaGreatDoor
open Go Go.RowKit
set_option linter.unusedSimpArgs false
set_option linter.unusedVariables false

theorem mapN_ext {w w' : World} {m : Nat} {G : Raw} (h : MapAt w m G) (hE : Ext w w') : MapAt w' m G := by
  have hlt := World.ownsMap.lt h
  obtain ⟨es, clock, e1, e2⟩ := h
  exact ⟨es, clock, by rw [hE.block m hlt]; exact e1, e2⟩
structure DiskN (w : World) (d m : Nat) : Prop where
  files : w.cell? ⟨d, 2, none⟩ = some (.map (some m))
  map : MapAt w m []
theorem DiskN.ext {w w' : World} {d m : Nat} (h : DiskN w d m) (hE : Ext w w') : DiskN w' d m := ⟨cell_below hE h.files, mapN_ext h.map hE⟩
theorem ck_max0 (n m : Int) (hm : m = max n 0) (ts : Array TypeId) (t : TypeId) (w : World) : (Builtin.max_ ts t #[.int .i64 n, .int .i64 0]).run Tryz.prog w = .ok (.int .i64 m) w := by
  simp [Builtin.max_, Builtin.max2]
  repeat' split
  all_goals omega
set_option maxRecDepth 100000 in
theorem ckDisk_at (q : Int) (w : World) :
    Calls Tryz.prog 10 #[.int .i64 q] w fun e w' => ∃ d m, e = .returned (.pointer (some ⟨d, 0, none⟩)) ∧ DiskN w' d m ∧ Ext w w' := by
  have hmax := ck_max0 q (max q 0) rfl
  obtain ⟨x, hx⟩ : ∃ x, x = max q 0 := ⟨_, rfl⟩
  rw [← hx] at hmax
  clear hx
  have hmk := fun w => run_makeMap (P := Tryz.prog) 74 w
  go_enter Tryz.func10, Tryz.ntmps10
  go_wp2
  go_ret
  have hE1 : Ext w (w.alloc (.map #[] 0)) := (Below.refl _ _).alloc (Nat.le_refl _) _
  have hs : (w.alloc (.map #[] 0)).heap.size = w.heap.size + 1 := by simp
  refine ⟨w.heap.size + 1, w.heap.size, rfl, ⟨?_, ?_⟩, hE1.alloc hE1.size _⟩
  · have hb := heap_alloc_last (w.alloc (.map #[] 0)) (.cells #[.int .i64 x, .int .i64 (-1), .map (some w.heap.size)] 76)
    rw [hs] at hb
    rw [cell_of_row _ _ _ _ _ _ hb]; rfl
  · exact mapN_ext (MapAt.made w) ((Below.refl _ _).alloc (Nat.le_refl _) _)
set_option maxRecDepth 100000 in
set_option maxHeartbeats 1000000 in
theorem ckRead_at {w : World} {d m : Nat} (h : DiskN w d m) (nm : List UInt8) (hn : nm.length ≤ 9223372036854775807) :
    Calls Tryz.prog 29 #[.pointer (some ⟨d, 0, none⟩), .string (str nm)] w fun e w' => e = .returned (.tuple #[.slice none 0 0, .int .i64 11]) ∧ Ext w w' := by
  have hzf := zero_file
  unfold zfile at hzf
  have hlk := h.map.look nm hn
  have c2 := h.files
  have HE := hid (ext_alloc w (.cells #[.slice none 0 0, .int .i64 0] 81))
  rw [show atL ([] : Raw) nm = none from rfl] at hlk
  simp only [Option.getD_none, Option.isSome_none, zfile] at hlk
  clear h
  go_enter Tryz.func29, Tryz.ntmps29
  go_wp2
  go_ret2
  exact ⟨rfl, HE.out⟩
structure LoadN (w : World) (ds : List DefV) (e : Ending) (w' : World) : Prop where
  ext : Ext w w'
  ans : ∃ p L S, e = .returned (.tuple #[.int .i64 0, .pointer (some ⟨p, 0, none⟩), .int .i64 0]) ∧ SetIs w' S p L ∧ viewP L = ds.map (fun d => (d, []))
set_option maxRecDepth 100000 in
set_option maxHeartbeats 2000000 in
theorem ckLoadN_at {w : World} {d m : Nat} (h : DiskN w d m) {A : Option Addr} {n c : Nat} {ds : List DefV} (hx : SlR RDef w (· < w.heap.size) A n c ds) (h0 : defsE ds = 0) (most : Int) :
    Calls Tryz.prog 14 #[.pointer (some ⟨d, 0, none⟩), .slice A n c, .int .i64 most] w fun e w' => LoadN w ds e w' := by
  have HD := hid h; have HX := hid hx; have H0 := hid h0
  clear h hx h0
  go_enter Tryz.func14, Tryz.ntmps14
  go_wp2_with fail
  go_loopw [19] (fun i wr => ∃ k : Nat, k ≤ 2 ∧ i = .int .i64 (k : Int) ∧ Hid (Ext w wr)) (fun i _ => 2 - (intOf i).toNat)
  case atStart => exact ⟨0, by omega, rfl, hid (Below.refl _ _)⟩
  case round =>
    obtain ⟨k, hk, rfl, HE⟩ := hrel
    by_cases h2 : k = 2
    · subst h2
      have hnew := projNew2_at (HX.out.grow HE.out)
      go_wp2_with fail
      refine hnew.mono ?_
      clear hnew
      rintro e w2 ⟨hE2, hans⟩
      rcases hans with ⟨h, -⟩ | ⟨-, p, L, S, rfl, hS, hv, -, -, -⟩
      · exact absurd H0.out h
      have hpost := hid (show LoadN w ds (.returned (.tuple #[.int .i64 0, .pointer (some ⟨p, 0, none⟩), .int .i64 0])) w2 from ⟨HE.out.trans' hE2, p, L, S, rfl, hS, hv⟩)
      clear hS hv hE2
      go_wp2
      go_ret3
      exact hpost.out
    · have hcc := fun nm hn => ckRead_at (HD.out.ext HE.out) nm hn
      by_cases h1 : k = 0
      · subst h1
        have hc1 := hcc [99, 104, 101, 99, 107] (by decide)
        have hix : ∀ w, (Instr.index 90 (.agg #[.string { data := #[99, 104, 101, 99, 107] }, .string { data := #[99, 104, 101, 99, 107, 95, 110, 101, 119] }]) (.int .i64 0)).run Tryz.prog w = .ok (.string { data := #[99, 104, 101, 99, 107] }) w := fun w => by kernel_rfl
        clear hcc
        go_wp2_with fail
        refine hc1.mono ?_
        clear hc1
        rintro e w2 ⟨rfl, hE2⟩
        have HE2 := hid (HE.out.trans' hE2)
        clear hE2
        go_wp2_with fail
        go_roundw
        case rel => exact ⟨1, by omega, by go_num, HE2⟩
        case measure => simp [intOf]
      · obtain rfl : k = 1 := by omega
        have hc1 := hcc [99, 104, 101, 99, 107, 95, 110, 101, 119] (by decide)
        have hix : ∀ w, (Instr.index 90 (.agg #[.string { data := #[99, 104, 101, 99, 107] }, .string { data := #[99, 104, 101, 99, 107, 95, 110, 101, 119] }]) (.int .i64 1)).run Tryz.prog w = .ok (.string { data := #[99, 104, 101, 99, 107, 95, 110, 101, 119] }) w := fun w => by kernel_rfl
        clear hcc
        go_wp2_with fail
        refine hc1.mono ?_
        clear hc1
        rintro e w2 ⟨rfl, hE2⟩
        have HE2 := hid (HE.out.trans' hE2)
        clear hE2
        go_wp2_with fail
        go_roundw
        case rel => exact ⟨2, by omega, by go_num, HE2⟩
        case measure => simp [intOf]
set_option maxRecDepth 100000 in
set_option maxHeartbeats 4000000 in
theorem shown17_at (w : World) : Calls Tryz.prog 8 #[] w fun e w' => e = .returned (.bool true) ∧ Ext w w' := by
  have hs1 : (w.alloc (.cells #[.slice none 0 0, .slice none 0 0] 67)).heap.size = w.heap.size + 1 := by simp
  have hE1 := ext_alloc w (.cells #[.slice none 0 0, .slice none 0 0] 67)
  have hcl : SlR RCl (w.alloc (.cells #[.slice none 0 0, .slice none 0 0] 67)) (· < w.heap.size + 1) (some ⟨w.heap.size, 0, none⟩) 1 1 [allC] :=
    slR_box (R := RCl) (cs := [.slice none 0 0, .slice none 0 0]) (x := allC) (cl_mk (c := allC) (slR_nil _ _) (slR_nil _ _)) (Nat.lt_succ_self _)
  have hE2 := ext_alloc (w.alloc (.cells #[.slice none 0 0, .slice none 0 0] 67)) (.cells #[.int .i64 1, .string { data := #[] }, .slice (some ⟨w.heap.size, 0, none⟩) 1 1] 72)
  have hdf : SlR RDef ((w.alloc (.cells #[.slice none 0 0, .slice none 0 0] 67)).alloc (.cells #[.int .i64 1, .string { data := #[] }, .slice (some ⟨w.heap.size, 0, none⟩) 1 1] 72)) (· < ((w.alloc (.cells #[.slice none 0 0, .slice none 0 0] 67)).alloc (.cells #[.int .i64 1, .string { data := #[] }, .slice (some ⟨w.heap.size, 0, none⟩) 1 1] 72)).heap.size) (some ⟨w.heap.size + 1, 0, none⟩) 1 1 [d0] := by
    have := slR_box (R := RDef) (K := (· < ((w.alloc (.cells #[.slice none 0 0, .slice none 0 0] 67)).alloc (.cells #[.int .i64 1, .string { data := #[] }, .slice (some ⟨w.heap.size, 0, none⟩) 1 1] 72)).heap.size)) (cs := [.int .i64 1, .string { data := #[] }, .slice (some ⟨w.heap.size, 0, none⟩) 1 1]) (x := d0) (t := 72) (w := w.alloc (.cells #[.slice none 0 0, .slice none 0 0] 67)) (def_mk (d := d0) (Nat.zero_le _) ((hcl.ext fun k hk => hE2.block k (by rw [hs1]; exact hk)).mono fun k hk => by simp; omega)) (by simp)
    rwa [hs1] at this
  have HE2 := hid (Ext.trans' hE1 hE2)
  have HDf := hid hdf
  have hcc := ckDisk_at 9 ((w.alloc (.cells #[.slice none 0 0, .slice none 0 0] 67)).alloc (.cells #[.int .i64 1, .string { data := #[] }, .slice (some ⟨w.heap.size, 0, none⟩) 1 1] 72))
  clear hE1 hE2 hcl hdf
  go_enter Tryz.func8, Tryz.ntmps8
  go_wp2_with fail
  generalize (w.alloc (.cells #[.slice none 0 0, .slice none 0 0] 67)).alloc (.cells #[.int .i64 1, .string { data := #[] }, .slice (some ⟨w.heap.size, 0, none⟩) 1 1] 72) = w2 at *
  refine hcc.mono ?_
  clear hcc hs1
  rintro e w3 ⟨d, m, rfl, hD, hE3⟩
  have hcc := ckLoadN_at hD (HDf.out.grow hE3) (by decide) 5
  have HE3 := hid (HE2.out.trans' hE3)
  clear hD hE3
  go_wp2_with fail
  refine hcc.mono ?_
  clear hcc
  rintro e w4 ⟨hE4, p, L, S, rfl, hS, hv⟩
  have HE4 := hid (HE3.out.trans' hE4)
  have hmn := setMany_at hS
  have hl : L.length = 1 := by rw [← viewP_len, hv]; rfl
  rw [hl] at hmn
  clear hS hv hE4 hl
  go_wp2_with fail
  refine hmn.mono ?_
  clear hmn
  rintro e wx ⟨rfl, hw⟩
  obtain rfl : w4 = wx := hw.symm
  clear hw
  go_wp2
  go_ret
  exact ⟨rfl, HE4.out⟩
set_option maxRecDepth 100000 in
theorem few_at {w : World} {K : Nat → Prop} {A : Option Addr} {n c : Nat} {ds : List DefV} (hx : SlR RDef w K A n c ds) :
    Calls Tryz.prog 9 #[.slice A n c] w fun e w' => (∃ n', e = .returned (.slice A n' c) ∧ n' ≤ 5 ∧ SlR RDef w K A n' c (ds.take 5)) ∧ w' = w := by
  have hn := hx.1
  have hnc := hx.2.1
  have hcm := hx.2.2.1
  go_enter Tryz.func9, Tryz.ntmps9
  by_cases h5 : 5 < n
  · have hlt : (5 : Int) < (n : Int) := by omega
    have H := hid (slR_take hx 5 (by omega))
    clear hx hn
    go_wp2
    go_ret
    exact ⟨⟨5, rfl, Nat.le_refl _, H.out⟩, rfl⟩
  · have hlt : ¬ ((5 : Int) < (n : Int)) := by omega
    have H := hid (show SlR RDef w K A n c (ds.take 5) by rw [List.take_of_length_le (by omega)]; exact hx)
    clear hx hn
    go_wp2
    go_ret
    exact ⟨⟨n, rfl, by omega, H.out⟩, rfl⟩
set_option maxRecDepth 100000 in
theorem states_at {w : World} {S : Nat → Prop} {p : Nat} {L : List Pc} (h : SetIs w S p L) (hf : PutFit (viewP L)) :
    Calls Tryz.prog 24 #[.pointer (some ⟨p, 0, none⟩)] w fun e w' => e = .returned (.string (str (setB (viewP L)))) ∧ Ext w w' := by
  have hcc := setPut_at h hf
  clear h hf
  go_enter Tryz.func24, Tryz.ntmps24
  go_wp2_with fail
  refine hcc.mono ?_
  clear hcc
  rintro e w' ⟨hE, v, rfl, hO⟩
  obtain ⟨A3, n3, c3, rfl, rfl, -, hr3⟩ := OB.rd hO
  have hs := run_str hr3 c3
  have HE := hid hE
  clear hO hr3 hE
  go_wp2
  go_ret
  exact ⟨rfl, HE.out⟩
end Go.Proofs.YtakebdeldndaaaaGreatDoor

/- registrarlaw17.folded. -/
namespace Go.Proofs.YtakebdeldndaaaaGreatDoor
open Go Go.RowKit
set_option linter.unusedSimpArgs false
set_option linter.unusedVariables false

def FoldedV (ds : List DefV) (k : Nat) (V : List (DefV × Ents)) : Prop := ∃ es : List EvV, V = runAll es (ds.map fun d => (d, [])) ∧ (∀ e ∈ es, mayEv e = 0) ∧ es.length ≤ k
theorem FoldedV.next {ds : List DefV} {k : Nat} {V : List (DefV × Ents)} (h : FoldedV ds k V) {e : EvV} (he : mayEv e = 0) : FoldedV ds (k + 1) (afterV [e] V) := by
  obtain ⟨es, h1, h2, h3⟩ := h
  unfold afterV
  split
  · refine ⟨es ++ [e], by rw [runAll_append, ← h1], fun x hx => ?_, by simp; omega⟩
    rcases List.mem_append.1 hx with hx | hx
    · exact h2 x hx
    · simp at hx; subst hx; exact he
  · exact ⟨es, h1, h2, by omega⟩
theorem FoldedV.le {ds : List DefV} {k k' : Nat} {V : List (DefV × Ents)} (h : FoldedV ds k V) (hk : k ≤ k') : FoldedV ds k' V := by
  obtain ⟨es, h1, h2, h3⟩ := h
  exact ⟨es, h1, h2, by omega⟩
theorem FoldedV.far {ds : List DefV} {k : Nat} {V : List (DefV × Ents)} (h : FoldedV ds k V) (hd : ds.length ≤ 4) (hk : k ≤ 30) : FarV (1125899906842624 + 1000 * (30 : Nat)) (0 + 6 * 30) 370 V := by
  obtain ⟨es, h1, h2, h3⟩ := h
  rw [h1]
  exact (farV_new hd).next h2 (by omega) (by decide)
theorem FoldedV.ok {ds : List DefV} {k : Nat} {V : List (DefV × Ents)} (h : FoldedV ds k V) (hd : ∀ d ∈ ds, mayDef d = 0) : OkV V := by
  obtain ⟨es, h1, h2, h3⟩ := h
  rw [h1]
  intro x hx
  unfold runAll at hx
  obtain ⟨y, hy, rfl⟩ := List.mem_map.1 hx
  have := okV_new hd y hy
  exact ⟨okR_fold es this.1, this.2⟩
theorem FoldedV.fst {ds : List DefV} {k : Nat} {V : List (DefV × Ents)} (h : FoldedV ds k V) : V.map (·.1) = ds := by
  obtain ⟨es, h1, h2, h3⟩ := h
  rw [h1]
  unfold runAll
  rw [List.map_map, List.map_map]
  exact List.map_id _
theorem FoldedV.loads {w : World} {S : Nat → Prop} {p : Nat} {L : List Pc} (hS : SetIs w S p L) {ds : List DefV} {k : Nat} (h : FoldedV ds k (viewP L)) (hk : k ≤ 30) : ∀ x ∈ viewP L, okE x.1 x.2 = true := by
  obtain ⟨es, h1, h2, h3⟩ := h
  exact fresh_ok hS (fun e he => small_may (h2 e he)) (by omega) h1
structure FoldedIs (w : World) (ds : List DefV) (e : Ending) (w' : World) : Prop where
  ext : Ext w w'
  ans : (defsE ds ≠ 0 ∧ e = .returned (.tuple #[.pointer none, .pointer none])) ∨
    (defsE ds = 0 ∧ ∃ p z L S, e = .returned (.tuple #[.pointer (some ⟨p, 0, none⟩), .pointer (some ⟨z, 0, none⟩)]) ∧ One w.heap.size w' S p L ∧ FoldedV ds 30 (viewP L))
set_option maxRecDepth 100000 in
set_option maxHeartbeats 8000000 in
theorem folded_at {w : World} {A : Option Addr} {n c : Nat} {ds : List DefV} (hx : SlR RDef w (· < w.heap.size) A n c ds) {A1 : Option Addr} {n1 c1 : Nat} {l : List EvV} (hl : SlR REv w (· < w.heap.size) A1 n1 c1 l) :
    Calls Tryz.prog 31 #[.slice A n c, .slice A1 n1 c1] w fun e w' => FoldedIs w ds e w' := by
  have Hl := hid hl
  have Hx := hid hx
  have hnc1 := hl.2.1
  have hcm1 := hl.2.2.1
  have Hnl := hid hl.1
  have hnew := projNew2_at hx
  clear hx hl
  go_enter Tryz.func31, Tryz.ntmps31
  go_wp2_with fail
  refine hnew.mono ?_
  clear hnew
  rintro e w1 ⟨hE2, hans⟩
  have hnew2 := refSetNew_at (w := w1) (n1 := w.heap.size) (Hx.out.ext fun k hk => hE2.block k hk) hE2.size
  have HE1 := hid hE2
  rcases hans with ⟨h0, rfl⟩ | ⟨h0, p, L, S, rfl, hS, hv, hR, hSl, hb⟩
  · clear hE2
    go_wp2_with fail
    refine hnew2.mono ?_
    clear hnew2
    rintro e w3 ⟨hE3, hans⟩
    rcases hans with ⟨-, rfl⟩ | ⟨h, -⟩
    rotate_left
    · exact absurd h h0
    have hpost := hid (show FoldedIs w ds (.returned (.tuple #[.pointer none, .pointer none])) w3 from ⟨HE1.out.trans' hE3, .inl ⟨h0, rfl⟩⟩)
    generalize defsE ds = me at *
    clear hE3 h0
    go_wp2
    go_ret2
    exact hpost.out
  obtain ⟨hlen, hmay⟩ := defsE_zero h0
  have HM2 := hid (And.intro hS (And.intro hv hb))
  have Hdl := hid hlen
  have Hmay := hid hmay
  have H0 := hid h0
  clear hS hv hR hSl hb hE2 hlen hmay h0
  go_wp2_with fail
  refine hnew2.mono ?_
  clear hnew2
  rintro e w3 ⟨hE3, hans⟩
  rcases hans with ⟨h, -⟩ | ⟨-, z, M, S2, rfl, hS2, hv2, hR2, hSa, hSb, hb2⟩
  · exact absurd H0.out h
  obtain ⟨hS, hv, hb⟩ := HM2.out
  have HD := hid (both_new (n := w.heap.size) hS hb hE3 hS2 hR2 hb2 hSa)
  have Hvv := hid (show viewP L = viewP M ∧ FoldedV ds 0 (viewP L) from ⟨hv.trans hv2.symm, [], by rw [hv, runAll_nil], fun e he => by simp at he, by simp⟩)
  have HE3 := hid (HE1.out.trans' hE3)
  clear hS hv hb hS2 hv2 hR2 hSa hSb hb2 hE3 HM2
  generalize hSS : (fun k => (k = p ∨ Blk L k) ∨ (k = z ∨ Blk M k)) = SS at *
  clear hSS
  go_wp2_with fail
  go_loopw [10] (fun i wr => ∃ (k : Nat) (S' : Nat → Prop) (L' M' : List Pc), k ≤ n1 ∧ k ≤ 30 ∧ i = .int .i64 (k : Int) ∧ Hid (Both w.heap.size wr S' p L' z M') ∧ Hid (viewP L' = viewP M' ∧ FoldedV ds k (viewP L')) ∧ Hid (Ext w wr)) (fun i _ => n1 - (intOf i).toNat)
  case atStart => exact ⟨0, _, _, _, by omega, by omega, rfl, HD, Hvv, HE3⟩
  case round =>
    clear HD Hvv HE3
    obtain ⟨k, S', L', M', hk1, hk30, rfl, HD, HV, HE⟩ := hrel
    by_cases hlt : k < n1 ∧ k < 30
    · obtain ⟨hkn, hk30'⟩ := hlt
      have hkx : k < l.length := by have := Hnl.out; omega
      have hlt1 : (k : Int) < (n1 : Int) := by omega
      have hlt3 : (k : Int) < 30 := by omega
      have hk00 : ¬ ((k : Int) < 0) := by omega
      have hk0 : (0 : Int) ≤ (k : Int) := by omega
      obtain ⟨b, o, T, a, U, u2, rfl, hkb, f0, f1, f2, f3, s1, s2, ht, hu⟩ := ev_at Hl.out k hkx
      have Hrow := hid (rec_mk (w := w) (ps := 0) (vr := 0) (e := l[k]) s1 s2 ht hu)
      have Hin := hid (show EvIn wr T _ a U _ u2 l[k] from ⟨s1, s2, (ht.grow HE.out), (hu.grow HE.out)⟩)
      have F := hid (And.intro f0 (And.intro f1 (And.intro f2 f3)))
      clear ht hu f0 f1 f2 f3 s1 s2
      generalize l[k] = ev at *
      have Hsm0 := hid (fun (h : mayEv ev = 0) => small_may h)
      generalize hn1 : ev.tags.length = t1 at *
      generalize hn2 : ev.fields.length = t2 at *
      clear hn1 hn2
      obtain ⟨f0, f1, f2, f3⟩ := F.out
      have f0 := cell_below HE.out f0; have f1 := cell_below HE.out f1; have f2 := cell_below HE.out f2; have f3 := cell_below HE.out f3
      have hcc := refMayEv_at Hin.out
      unfold evVal at hcc
      go_wp2_with fail
      refine hcc.mono ?_
      clear hcc f0 f1 f2 f3
      rintro x w4 ⟨rfl, hE⟩
      have HE4 := hid (HE.out.trans' hE)
      have HD4 := hid (HD.out.ext hE)
      clear hE HD HE
      by_cases hm : mayEv ev = 0
      rotate_left
      · have hmb : (mayEv ev == 0) = false := beq_eq_false_iff_ne.2 hm
        have HV2 := hid (And.intro HV.out.1 (HV.out.2.le (Nat.le_succ k)))
        generalize mayEv ev = me at *
        go_wp2_with fail
        go_roundw
        case rel => exact ⟨k + 1, _, _, _, by omega, by omega, by go_num, HD4, HV2, HE4⟩
        case measure => simp [intOf]; omega
      rw [hm]
      have Hsm := hid (show ∀ e ∈ evsOf [((0 : Int), (0 : Int), ev)], SmallE e from fun e he => by
        have h1 : e = ev := by simpa [evsOf] using he
        rw [h1]; exact Hsm0.out hm)
      have HV2 := hid (HV.out.2.next hm)
      have Hfar := hid (HV.out.2.far Hdl.out (by omega))
      have HOk := hid (HV.out.2.ok Hmay.out)
      clear hm Hsm0
      -- the program's
      obtain ⟨f0, f1, f2, f3⟩ := F.out
      have f0 := cell_below HE4.out f0; have f1 := cell_below HE4.out f1; have f2 := cell_below HE4.out f2; have f3 := cell_below HE4.out f3
      have hEb := ext_alloc w4 (.cells #[.int .i64 0, .int .i64 0, .string (str ev.st), .string (str ev.ty), .slice T t1 a, .slice U t2 u2] 116)
      have HDb := hid (HD4.out.ext hEb)
      have HEb := hid (HE4.out.trans' hEb)
      have hrow : SlR RRec (w4.alloc (.cells #[.int .i64 0, .int .i64 0, .string (str ev.st), .string (str ev.ty), .slice T t1 a, .slice U t2 u2] 116)) (Out S' (w4.alloc (.cells #[.int .i64 0, .int .i64 0, .string (str ev.st), .string (str ev.ty), .slice T t1 a, .slice U t2 u2] 116))) (some ⟨w4.heap.size, 0, none⟩) 1 1 [(0, 0, ev)] :=
        slR_box (R := RRec) (cs := [.int .i64 0, .int .i64 0, .string (str ev.st), .string (str ev.ty), .slice T t1 a, .slice U t2 u2]) (x := (0, 0, ev)) (RRec.mono (RRec.ext Hrow.out fun x hx => HEb.out.block x hx) fun x hx => ⟨Nat.lt_of_lt_of_le hx HEb.out.size, fun h => by have := HDb.out.lo x h; omega⟩) ⟨by simp, fun h => by have := HD4.out.lt _ h; omega⟩
      have hcc := setApply_at HDb.out.A HDb.out.lt (by rw [← viewP_len]; have := Hfar.out.few; omega) hrow (FarV.run Hfar.out (by simp)) Hsm.out
      clear hrow hEb HD4
      go_wp2_with fail
      generalize w4.alloc (.cells #[.int .i64 0, .int .i64 0, .string (str ev.st), .string (str ev.ty), .slice T t1 a, .slice U t2 u2] 116) = w5 at *
      refine hcc.mono ?_
      clear hcc f0 f1 f2 f3
      rintro e w6 hD
      obtain ⟨rfl, S6, L6, hD6, hv6, -, -⟩ := HDb.out.didA hD
      have hpl := HDb.out.lo _ HDb.out.A.pIn
      have HE6 := hid (show Ext w w6 from HEb.out.trans (hD.kept.below hpl hpl HEb.out.size))
      have HD6 := hid hD6
      have Hv6 := hid hv6
      clear hD hD6 hv6 hpl HDb HEb HE4
      generalize hae : afterE (evsOf [((0 : Int), (0 : Int), ev)]) (viewP L') = ae at *
      clear hae
      -- the reference's
      obtain ⟨f0, f1, f2, f3⟩ := F.out
      have f0 := cell_below HE6.out f0; have f1 := cell_below HE6.out f1; have f2 := cell_below HE6.out f2; have f3 := cell_below HE6.out f3
      have hEb := ext_alloc w6 (.cells #[.int .i64 0, .int .i64 0, .string (str ev.st), .string (str ev.ty), .slice T t1 a, .slice U t2 u2] 116)
      have HDb := hid (HD6.out.ext hEb)
      have HEb := hid (HE6.out.trans' hEb)
      have hrow : SlR RRec (w6.alloc (.cells #[.int .i64 0, .int .i64 0, .string (str ev.st), .string (str ev.ty), .slice T t1 a, .slice U t2 u2] 116)) (Out S6 (w6.alloc (.cells #[.int .i64 0, .int .i64 0, .string (str ev.st), .string (str ev.ty), .slice T t1 a, .slice U t2 u2] 116))) (some ⟨w6.heap.size, 0, none⟩) 1 1 [(0, 0, ev)] :=
        slR_box (R := RRec) (cs := [.int .i64 0, .int .i64 0, .string (str ev.st), .string (str ev.ty), .slice T t1 a, .slice U t2 u2]) (x := (0, 0, ev)) (RRec.mono (RRec.ext Hrow.out fun x hx => HEb.out.block x hx) fun x hx => ⟨Nat.lt_of_lt_of_le hx HEb.out.size, fun h => by have := HDb.out.lo x h; omega⟩) ⟨by simp, fun h => by have := HD6.out.lt _ h; omega⟩
      have hvM := hid (show viewP M' = viewP L' from HV.out.1.symm)
      have hcc := refSetApply_at HDb.out.B HDb.out.lt (by rw [← viewP_len, hvM.out]; have := Hfar.out.few; omega) hrow (FarV.run (L := M') (by rw [hvM.out]; exact Hfar.out) (by simp)) Hsm.out (fun x hx => HOk.out (x.d, x.D) (by rw [← hvM.out]; exact List.mem_map.2 ⟨x, hx, rfl⟩))
      clear hrow hEb HD6
      go_wp2_with fail
      generalize w6.alloc (.cells #[.int .i64 0, .int .i64 0, .string (str ev.st), .string (str ev.ty), .slice T t1 a, .slice U t2 u2] 116) = w7 at *
      refine hcc.mono ?_
      clear hcc f0 f1 f2 f3
      rintro e w8 hD
      obtain ⟨rfl, S8, M8, hD8, hv8, -, -⟩ := HDb.out.didB hD
      have hpl := HDb.out.lo _ HDb.out.B.pIn
      have HE8 := hid (show Ext w w8 from HEb.out.trans (hD.kept.below hpl hpl HEb.out.size))
      have HD8 := hid hD8
      have HV8 := hid (show viewP L6 = viewP M8 ∧ FoldedV ds (k + 1) (viewP L6) from ⟨by rw [Hv6.out, hv8, hvM.out], by rw [Hv6.out]; exact HV2.out⟩)
      clear hD hD8 hv8 hpl HDb HEb HE6
      generalize afterE (evsOf [((0 : Int), (0 : Int), ev)]) (viewP M') = ae2 at *
      go_wp2_with fail
      go_roundw
      case rel => exact ⟨k + 1, _, _, _, by omega, by omega, by go_num, HD8, HV8, HE8⟩
      case measure => simp [intOf]; omega
    · have hpost := hid (show FoldedIs w ds (.returned (.tuple #[.pointer (some ⟨p, 0, none⟩), .pointer (some ⟨z, 0, none⟩)])) wr from ⟨HE.out, .inr ⟨H0.out, p, z, L', S', rfl, ⟨HD.out.A, HD.out.lt, HD.out.lo⟩, HV.out.2.le hk30⟩⟩)
      by_cases hkn : k < n1
      · have hlt1 : (k : Int) < (n1 : Int) := by omega
        have hlt3 : ¬ ((k : Int) < 30) := by omega
        go_wp2
        go_ret2
        exact hpost.out
      · have hlt1 : ¬ ((k : Int) < (n1 : Int)) := by omega
        go_wp2
        go_ret2
        exact hpost.out
end Go.Proofs.YtakebdeldndaaaaGreatDoor

