/- Several texts of this claim's, one behind the other. -/
import Derived.Test.YtakebdeldndaaaaGreatDoorLd
import Derived.Test.YtakebdeldndaaaaGreatDoorQB0
import Derived.Test.YtakebdeldndaaaaGreatDoorCrc
import Derived.Test.YtakebdeldndaaaaGreatDoorPja
import Derived.Test.YtakebdeldndaaaaGreatDoorQcb
import Derived.OwnWalk
import Derived.Test.YtakebdeldndaaaaGreatDoorStore
import Derived.Test.YtakebdeldndaaaaGreatDoorDefMk
import Derived.Test.YtakebdeldndaaaaGreatDoorBo0
/- Checkpoints as bytes. Plain. -/
namespace Go.Proofs.YtakebdeldndaaaaGreatDoor
open Go
set_option linter.unusedVariables false
def takeO (ds : List DefV) (b : List UInt8) : Option (Int × List Ents) :=
 if Crc.good b = false then none else
  if ((numS (b.take (b.length - 4))).2.2 || (textS (numS (b.take (b.length - 4))).2.1).2.2) = true ∨ (numS (b.take (b.length - 4))).1 < 0 ∨ 1048576 < (numS (b.take (b.length - 4))).1 ∨ (textS (numS (b.take (b.length - 4))).2.1).1 ≠ dfsB ds then none
  else (ldAll ds (textS (numS (b.take (b.length - 4))).2.1).2.1).map fun Es => ((numS (b.take (b.length - 4))).1, Es)
theorem take_bad {ds : List DefV} {b : List UInt8} (h : Crc.good b = false) : takeO ds b = none := by
 unfold takeO; rw [if_pos h]
end Go.Proofs.YtakebdeldndaaaaGreatDoor
/- check.Put. -/
namespace Go.Proofs.YtakebdeldndaaaaGreatDoor
open Go Go.RowKit
set_option linter.unusedSimpArgs false
set_option linter.unusedVariables false
end Go.Proofs.YtakebdeldndaaaaGreatDoor
/- check.Take. -/
namespace Go.Proofs.YtakebdeldndaaaaGreatDoor
open Go Go.RowKit
set_option linter.unusedSimpArgs false
set_option linter.unusedVariables false
structure Hi (n0 : Nat) (w : World) (p : Nat) (L : List Pc) : Prop where
 set : ∃ S, SetIs w S p L ∧ ∀ k, k < n0 → S k
 row : RowLo w n0 p L
 lo : ∀ k, Blk L k ∨ k = p → n0 ≤ k
theorem Hi.down {w : World} {n n0 p : Nat} {L : List Pc} (h : Hi n0 w p L) (hn : n ≤ n0) : Hi n w p L := by
 obtain ⟨⟨S, h1, h2⟩, hR, hb⟩ := h
 exact ⟨⟨S, h1, fun k hk => h2 k (by omega)⟩, hR.down hn, fun k hk => by have := hb k hk; omega⟩
structure Take2Is (w : World) (ds : List DefV) (b : List UInt8) (e : Ending) (w' : World) : Prop where
 ext : Ext w w'
 ans : (defsE ds ≠ 0 ∧ e = .returned (.tuple #[.int .i64 0, .pointer none, .int .i64 (defsE ds)])) ∨
  (defsE ds = 0 ∧ takeO ds b = none ∧ e = .returned (.tuple #[.int .i64 0, .pointer none, .int .i64 2])) ∨
  (defsE ds = 0 ∧ ∃ last Es p L S, takeO ds b = some (last, Es) ∧ e = .returned (.tuple #[.int .i64 last, .pointer (some ⟨p, 0, none⟩), .int .i64 0]) ∧ One w.heap.size w' S p L ∧ viewP L = ds.zip Es ∧ Hi w.heap.size w' p L)
theorem read_pos {x : List UInt8} (h1 : (numS x).2.2 = false) (h2 : (textS (numS x).2.1).2.2 = false) : (textS (numS x).2.1).2.1.length ≤ x.length ∧ x.drop (x.length - (textS (numS x).2.1).2.1.length) = (textS (numS x).2.1).2.1 := by
 have k1 := (numS_ok (bs := x) (x := (numS x).1) (r := (numS x).2.1) (by rw [← h1])).1
 have k2 := textS_ok (bs := (numS x).2.1) (t := (textS (numS x).2.1).1) (r := (textS (numS x).2.1).2.1) (by rw [← h2])
 generalize (textS (numS x).2.1).2.1 = rest at *
 generalize (textS (numS x).2.1).1 = t at *
 generalize (numS x).2.1 = y at *
 subst k2
 rw [← List.append_assoc] at k1
 generalize encB (numS x).1 ++ encT t = pre at *
 refine ⟨by rw [k1, List.length_append]; omega, ?_⟩
 have e : x.length - rest.length = pre.length := by rw [k1, List.length_append]; omega
 rw [e, k1]
 exact List.drop_left
set_option maxRecDepth 100000 in
set_option maxHeartbeats 4000000 in
theorem ckTake2_at {w : World} {A : Option Addr} {n c : Nat} {ds : List DefV} (hx : SlR RDef w (· < w.heap.size) A n c ds) {B : Option Addr} {m d : Nat} {b : List UInt8} (hm : m = b.length) (hmd : m ≤ d) (hb : RB w B b) (hlen : m ≤ 1800000) :
  Calls Tryz.prog 43 #[.slice A n c, .slice B m d] w fun e w' => Take2Is w ds b e w' := by
 have HX := hid hx
 have Hm := hid hm
 have Hb := hid hb
 have hpd := putDefsB_at hx
 have hz := zero_tab
 clear hx hb hm
 go_enter Tryz.func43, Tryz.ntmps43
 go_wp2_with fail
 refine hpd.mono ?_
 clear hpd
 rintro e w1 ⟨⟨v0, rfl, hO0⟩, hE⟩
 have HE1 := hid hE
 have HO0 := hid hO0
 clear hE hO0
 by_cases h0 : defsE ds = 0
 rotate_left
 ·have Hpost := hid (fun W (hE : Ext w W) => (⟨hE, .inl ⟨h0, rfl⟩⟩ : Take2Is w ds b (.returned (.tuple #[.int .i64 0, .pointer none, .int .i64 (defsE ds)])) W))
  generalize defsE ds = me at *
  have hx : (me != 0) = true := by simpa using h0
  have hx2 : (me == 0) = false := by simpa using h0
  clear h0 HO0
  go_wp2
  go_ret3
  exact Hpost.out _ HE1.out
 have H0 := hid h0
 rw [h0]
 have HOp := hid (HO0.out h0)
 clear HO0 h0
 obtain ⟨Ap, np, cp, rfl, hnp, hcp, hRp⟩ := OB.rd HOp.out
 have HRp := hid hRp; have Hnp := hid hnp
 clear hRp hnp HOp
 go_wp2_with fail
 refine (new_calls _).mono ?_
 rintro e w2 ⟨rfl, hb1⟩
 have HB2 := hid (HE1.out.trans' hb1)
 have Ht := hid (TabAt.new w2)
 have hE3 := ext_alloc w2 (.cells (tabs 256) 120)
 have HE3 := hid (HB2.out.trans' hE3)
 have HRp3 := hid (RB.below (RB.below HRp.out hb1) hE3)
 clear hb1 hE3 HRp HB2
 go_wp2_with (refine wpList_store_tab (w := w2) rfl (.tmp 9) (.tmp 23) rfl rfl rfl ?_)
 generalize w2.alloc (.cells (tabs 256) 120) = w3 at *
 have hcc := open_at w2.heap.size B m d b w3 Hm.out (by omega) hmd Ht.out (RB.below Hb.out HE3.out)
 refine hcc.mono ?_
 clear hcc
 rintro e w4 ⟨⟨v4, rfl, hO4⟩, hB4⟩
 have HEx := hid (HE3.out.trans' hB4)
 have HRp4 := hid (RB.below HRp3.out hB4)
 have hs4 := HE3.out.size
 have Hw3 := hid (show w.heap.size ≤ w3.heap.size from HE3.out.size)
 cases hg : Crc.good b
 ·have HNo := hid (take_bad (ds := ds) hg)
  clear hO4 hB4 hg
  -- refused: 2
  have hpost := hid (show Take2Is w ds b (.returned (.tuple #[.int .i64 0, .pointer none, .int .i64 2])) w4 from ⟨HEx.out, .inr (.inl ⟨H0.out, HNo.out, rfl⟩)⟩)
  go_wp2
  go_ret3
  exact hpost.out
 rw [hg, if_pos rfl] at hO4
 have hO4 : OB w4 w3.heap.size v4 (b.take (b.length - 4)) := hO4
 obtain ⟨Ay, cy, ey, hRy⟩ := ob_out (S := fun k => k < w3.heap.size) hO4 (fun k hk => hk)
 obtain ⟨Ax, cx, rfl, hRx⟩ := ob_out (S := fun _ => False) hO4 (fun k hk => hk.elim)
 simp only [Value.slice.injEq] at ey
 obtain ⟨rfl, -, rfl⟩ := ey
 have Hg := hid hg
 have HTk := hid (show takeO ds b = if ((numS (b.take (b.length - 4))).2.2 || (textS (numS (b.take (b.length - 4))).2.1).2.2) = true ∨ (numS (b.take (b.length - 4))).1 < 0 ∨ 1048576 < (numS (b.take (b.length - 4))).1 ∨ (textS (numS (b.take (b.length - 4))).2.1).1 ≠ dfsB ds then none
  else (ldAll ds (textS (numS (b.take (b.length - 4))).2.1).2.1).map fun Es => ((numS (b.take (b.length - 4))).1, Es) from by unfold takeO; rw [hg]; rfl)
 have hlx : (b.take (b.length - 4)).length ≤ 1800000 := by rw [List.length_take]; have := Hm.out; omega
 have Hlx := hid hlx
 clear hO4 hB4 hg hlx
 generalize b.take (b.length - 4) = x at *
 have HRx := hid hRx
 have HRy := hid hRy
 clear hRy
 have hcc := rdNew_at hRx (fun k hk => hk.elim)
 have hxc := hRx.2.1
 have hxm := hRx.2.2.1
 clear hRx
 generalize hxl : x.length = xl at *
 have Hxl := hid hxl
 clear hxl
 go_wp2_with fail
 refine hcc.mono ?_
 clear hcc
 rintro e w5 ⟨rfl, hR, hE5, -⟩
 obtain ⟨r, hr⟩ : ∃ r, r = w4.heap.size := ⟨_, rfl⟩
 have Hr := hid hr
 rw [← hr] at hR ⊢
 clear hr
 have HE5 := hid hE5
 have hcc := rdNum_at hR
 clear hR hE5
 go_wp2_with fail
 refine hcc.mono ?_
 clear hcc
 rintro e w6 ⟨rfl, hR, hK⟩
 have HE6 := hid (show Ext w4 w6 from HE5.out.trans (hK.below (by rw [Hr.out]; exact Nat.le_refl _) (by rw [Hr.out]; exact Nat.le_refl _) HE5.out.size))
 have Hpos := hid (fun h1 h2 => read_pos (x := x) h1 h2)
 have hnl := numS_len x
 have Hnr := hid (numS_range x)
 generalize (numS x).1 = a at *
 generalize (numS x).2.2 = f1 at *
 generalize (numS x).2.1 = y at *
 rw [Bool.false_or] at hR
 have hcc := rdText_at hR (by have := Hlx.out; have := Hxl.out; omega)
 have Hyl := hid (show y.length ≤ 1800000 by have := Hlx.out; have := Hxl.out; omega)
 clear hR hK hnl
 go_wp2_with fail
 refine hcc.mono ?_
 clear hcc
 rintro e w7 ⟨rfl, hR, hK⟩
 have HE7 := hid (show Ext w4 w7 from HE6.out.trans (hK.below (by rw [Hr.out]; exact Nat.le_refl _) (by rw [Hr.out]; exact Nat.le_refl _) HE6.out.size))
 have htl := textS_len y
 generalize (textS y).1 = t at *
 generalize (textS y).2.2 = f2 at *
 generalize (textS y).2.1 = rest at *
 have HRd := hid hR
 have Hrl := hid (show rest.length ≤ 1800000 by have := Hyl.out; omega)
 have HEx := hid (show Ext w w7 from Ext.trans' HEx.out HE7.out)
 have HRp7 := hid (RB.below HRp4.out HE7.out)
 have hcc := rdBad_at hR
 clear hR hK htl HE6 HE5 HRp4
 generalize hfb : (f1 || f2) = fb at *
 have Hfb := hid hfb
 clear hfb
 cases fb
 rotate_left
 ·have HNo := hid (show takeO ds b = none by rw [HTk.out, if_pos (.inl rfl)])
  go_wp2_with fail
  refine hcc.mono ?_
  clear hcc
  rintro e wx ⟨rfl, hw⟩
  obtain rfl : w7 = wx := hw.symm
  clear hw
  -- refused: 2
  have hpost := hid (show Take2Is w ds b (.returned (.tuple #[.int .i64 0, .pointer none, .int .i64 2])) w7 from ⟨HEx.out, .inr (.inl ⟨H0.out, HNo.out, rfl⟩)⟩)
  go_wp2
  go_ret3
  exact hpost.out
 by_cases ha0 : a < 0
 ·have HNo := hid (show takeO ds b = none by rw [HTk.out, if_pos (.inr (.inl ha0))])
  go_wp2_with fail
  refine hcc.mono ?_
  clear hcc
  rintro e wx ⟨rfl, hw⟩
  obtain rfl : w7 = wx := hw.symm
  clear hw
  -- refused: 2
  have hpost := hid (show Take2Is w ds b (.returned (.tuple #[.int .i64 0, .pointer none, .int .i64 2])) w7 from ⟨HEx.out, .inr (.inl ⟨H0.out, HNo.out, rfl⟩)⟩)
  go_wp2
  go_ret3
  exact hpost.out
 by_cases ha1 : 1048576 < a
 ·have HNo := hid (show takeO ds b = none by rw [HTk.out, if_pos (.inr (.inr (.inl ha1)))])
  go_wp2_with fail
  refine hcc.mono ?_
  clear hcc
  rintro e wx ⟨rfl, hw⟩
  obtain rfl : w7 = wx := hw.symm
  clear hw
  -- refused: 2
  have hpost := hid (show Take2Is w ds b (.returned (.tuple #[.int .i64 0, .pointer none, .int .i64 2])) w7 from ⟨HEx.out, .inr (.inl ⟨H0.out, HNo.out, rfl⟩)⟩)
  go_wp2
  go_ret3
  exact hpost.out
 have hs := run_str HRp7.out cp
 rw [← Hnp.out] at hs
 by_cases htx : t = dfsB ds
 rotate_left
 ·have HNo := hid (show takeO ds b = none by rw [HTk.out, if_pos (.inr (.inr (.inr htx)))])
  have hne : ((str t).toList == (str (dfsB ds)).toList) = false := by rw [str_toList, str_toList]; exact beq_eq_false_iff_ne.2 htx
  generalize dfsB ds = bp at *
  clear htx
  go_wp2_with fail
  refine hcc.mono ?_
  clear hcc
  rintro e wx ⟨rfl, hw⟩
  obtain rfl : w7 = wx := hw.symm
  clear hw
  -- refused: 2
  have hpost := hid (show Take2Is w ds b (.returned (.tuple #[.int .i64 0, .pointer none, .int .i64 2])) w7 from ⟨HEx.out, .inr (.inl ⟨H0.out, HNo.out, rfl⟩)⟩)
  go_wp2
  go_ret3
  exact hpost.out
 have HTk2 := hid (show takeO ds b = (ldAll ds rest).map fun Es => (a, Es) from by rw [HTk.out, if_neg (by rintro (h | h | h | h); cases h; exact ha0 h; exact ha1 h; exact h htx)])
 subst htx
 obtain ⟨hf1, hf2⟩ : f1 = false ∧ f2 = false := by have := Hfb.out; simpa using this
 obtain ⟨hp1, hp2⟩ := Hpos.out hf1 hf2
 rw [Hxl.out] at hp1 hp2
 have Hp2 := hid hp2
 generalize dfsB ds = bp at *
 have hnew := projNew2_at (HX.out.grow HEx.out)
 clear HTk Hpos hf1 hf2 hp2 Hfb
 go_wp2_with fail
 refine hcc.mono ?_
 clear hcc
 rintro e wx ⟨rfl, hw⟩
 obtain rfl : w7 = wx := hw.symm
 clear hw
 go_wp2_with fail
 clear hs
 refine hnew.mono ?_
 clear hnew
 rintro e w8 ⟨hE8, hans⟩
 rcases hans with ⟨h, -⟩ | ⟨-, p, L, S, rfl, hS, hv, hR, hSl, hb⟩
 ·exact absurd H0.out h
 obtain ⟨hl4, -⟩ := defsE_zero H0.out
 have hs7 := HEx.out.size
 have hwn : w.heap.size ≤ w7.heap.size := hs7
 have HD := hid (show SetIs w8 (fun k => k < w.heap.size ∨ k = p ∨ Blk L k) p L from hS.less (fun k hk => by
  rcases hk with hk | rfl | hk
  ·exact hSl k (by omega)
  ·exact hS.pIn
  ·exact (hS.pcs.lt hk).2) (fun k hk => .inr (.inr hk)) (.inr (.inl rfl)))
 have HSb := hid (show ∀ k, (fun k => k < w.heap.size ∨ k = p ∨ Blk L k) k → k < w8.heap.size from fun k hk => by
  have := hE8.size
  rcases hk with hk | rfl | hk
  ·omega
  ·exact hS.lt
  ·exact (hS.pcs.lt hk).1)
 have HS7 : Hid (∀ k, (fun k => k < w.heap.size ∨ k = p ∨ Blk L k) k → k < w.heap.size ∨ w7.heap.size ≤ k) := hid (fun k hk => by
  rcases hk with hk | hk | hk
  ·exact .inl hk
  ·exact .inr (hb k (.inr hk)).1
  ·exact .inr (hb k (.inl hk)).1)
 have HLo : Hid (∀ k, Blk L k ∨ k = p → w7.heap.size ≤ k) := hid (fun k hk => (hb k hk).1)
 have Hwn := hid hwn
 clear hwn
 have Hds := hid (viewP_ds L ds hv)
 have Hll := hid (show L.length ≤ 4 from by rw [← viewP_len, hv, List.length_map]; exact hl4)
 have HE8 := hid (show Ext w4 w8 from Ext.trans' HE7.out hE8)
 have HEx := hid (show Ext w w8 from Ext.trans' HEx.out hE8)
 have HW8 := hid (show w.heap.size ≤ w8.heap.size from HEx.out.size)
 have hlf := rdLeft_at (HRd.out.ext hE8)
 clear hS hv hR hSl hb hE8 hl4
 have HSw := hid (show ∀ k, k < w.heap.size → (fun k => k < w.heap.size ∨ k = p ∨ Blk L k) k from fun k hk => .inl hk)
 generalize hSS : (fun k => k < w.heap.size ∨ k = p ∨ Blk L k) = SS at *
 clear hSS
 obtain ⟨Al, hAl, hq⟩ := slice_fromK (HRy.out.ext fun k hk => HE8.out.block k hk.1) (xl - rest.length) (by omega)
 rw [Hp2.out, show xl - (xl - rest.length) = rest.length by omega] at hAl
 rw [show xl - (xl - rest.length) = rest.length by omega] at hq
 have hAl2 : SlR Rep.u8 w8 (Out SS w8) Al rest.length (cx - (xl - rest.length)) rest := hAl.mono fun k hk => ⟨Nat.lt_of_lt_of_le hk.1 HE8.out.size, fun h => by have := HS7.out k h; have := HE7.out.size; have := hk.1; have := hk.2; have := Hw3.out; omega⟩
 have hqi : (((xl - rest.length : Nat)) : Int) = (xl : Int) - (rest.length : Int) := by omega
 rw [hqi] at hq
 have hcc := setLoad_at HD.out HSb.out (by have := Hll.out; omega) hAl2 Hrl.out
 clear hAl hAl2 hqi
 generalize hrl : rest.length = rl at *
 have hi0 : (0 : Int) ≤ (xl : Int) - (rl : Int) := by omega
 have hi1 : (xl : Int) - (rl : Int) ≤ (cx : Int) := by omega
 have Hrl2 := hid hrl
 clear hrl
 go_wp2_with fail
 refine hlf.mono ?_
 clear hlf
 rintro e wx ⟨rfl, hw⟩
 obtain rfl : w8 = wx := hw.symm
 clear hw
 go_wp2_with fail
 refine hcc.mono ?_
 clear hcc
 rintro e w9 hD
 have hpl := HLo.out p (.inr rfl)
 have h7n := HE7.out.size
 have HEx := hid (show Ext w w9 from HEx.out.trans (hD.kept.below (by have := Hwn.out; omega) (by have := Hwn.out; omega) HEx.out.size))
 obtain ⟨L9, S9, g1, g2, g3, g4, g5, g6⟩ := hD.ans
 have hlo9 : ∀ k, Blk L9 k ∨ k = p → w.heap.size ≤ k := fun k hk => by
  have := Hwn.out
  have h8 := HE8.out.size
  rcases hk with hk | rfl
  ·rcases g5 k hk with h | h
   ·have := HLo.out k (.inl h); omega
   ·have := HW8.out; omega
  ·omega
 have HD9 := hid (show One w.heap.size w9 (fun k => k = p ∨ Blk L9 k) p L9 from one_new g1 fun k hk => ⟨hlo9 k hk, by
  rcases hk with hk | rfl
  ·exact (g1.pcs.lt hk).1
  ·exact g1.lt⟩)
 have HHi := hid (show Hi w.heap.size w9 p L9 from ⟨⟨S9, g1, fun k hk => g4 k (HSw.out k hk)⟩, g2.down HW8.out, hlo9⟩)
 rw [Hds.out] at g6
 clear hD hpl g1 g2 g3 g4 g5 hlo9 h7n
 rcases g6 with ⟨Es, e1, rfl, e2⟩ | ⟨e1, rfl, -⟩
 ·have hpost := hid (show Take2Is w ds b (.returned (.tuple #[.int .i64 a, .pointer (some ⟨p, 0, none⟩), .int .i64 0])) w9 from ⟨HEx.out, .inr (.inr ⟨H0.out, a, Es, p, L9, _, by rw [HTk2.out, e1]; rfl, rfl, HD9.out, e2, HHi.out⟩)⟩)
  clear e1 e2
  go_wp2
  go_ret3
  exact hpost.out
 ·have HNo := hid (show takeO ds b = none by rw [HTk2.out, e1]; rfl)
  clear e1
  -- refused: 2
  have hpost := hid (show Take2Is w ds b (.returned (.tuple #[.int .i64 0, .pointer none, .int .i64 2])) w9 from ⟨HEx.out, .inr (.inl ⟨H0.out, HNo.out, rfl⟩)⟩)
  go_wp2
  go_ret3
  exact hpost.out
end Go.Proofs.YtakebdeldndaaaaGreatDoor
/- registrarlaw17: shown, few, states. -/
namespace Go.Proofs.YtakebdeldndaaaaGreatDoor
open Go Go.RowKit
set_option linter.unusedSimpArgs false
set_option linter.unusedVariables false
theorem mapN_ext {w w' : World} {m : Nat} {G : Raw} (h : MapAt w m G) (hE : Ext w w') : MapAt w' m G := by
 have hlt := World.ownsMap.lt h
 obtain ⟨es, clock, e1, e2⟩ := h
 exact ⟨es, clock, by rw [hE.block m hlt]; exact e1, e2⟩
structure DiskN (w : World) (d m : Nat) : Prop where
 files : w.cell? ⟨d, 2, none⟩ = some (.map (some m))
 map : MapAt w m []
theorem DiskN.ext {w w' : World} {d m : Nat} (h : DiskN w d m) (hE : Ext w w') : DiskN w' d m := ⟨cell_below hE h.files, mapN_ext h.map hE⟩
theorem ck_max0 (n m : Int) (hm : m = max n 0) (ts : Array TypeId) (t : TypeId) (w : World) : (Builtin.max_ ts t #[.int .i64 n, .int .i64 0]).run Tryz.prog w = .ok (.int .i64 m) w := by
 simp [Builtin.max_, Builtin.max2]
 repeat' split
 all_goals omega
set_option maxRecDepth 100000 in
theorem ckDisk_at (q : Int) (w : World) :
  Calls Tryz.prog 10 #[.int .i64 q] w fun e w' => ∃ d m, e = .returned (.pointer (some ⟨d, 0, none⟩)) ∧ DiskN w' d m ∧ Ext w w' := by
 have hmax := ck_max0 q (max q 0) rfl
 obtain ⟨x, hx⟩ : ∃ x, x = max q 0 := ⟨_, rfl⟩
 rw [← hx] at hmax
 clear hx
 have hmk := fun w => run_makeMap (P := Tryz.prog) 74 w
 go_enter Tryz.func10, Tryz.ntmps10
 go_wp2
 go_ret
 have hE1 : Ext w (w.alloc (.map #[] 0)) := (Below.refl _ _).alloc (Nat.le_refl _) _
 have hs : (w.alloc (.map #[] 0)).heap.size = w.heap.size + 1 := by simp
 refine ⟨w.heap.size + 1, w.heap.size, rfl, ⟨?_, ?_⟩, hE1.alloc hE1.size _⟩
 ·have hb := heap_alloc_last (w.alloc (.map #[] 0)) (.cells #[.int .i64 x, .int .i64 (-1), .map (some w.heap.size)] 76)
  rw [hs] at hb
  rw [cell_of_row _ _ _ _ _ _ hb]; rfl
 ·exact mapN_ext (MapAt.made w) ((Below.refl _ _).alloc (Nat.le_refl _) _)
set_option maxRecDepth 100000 in
set_option maxHeartbeats 1000000 in
theorem ckRead_at {w : World} {d m : Nat} (h : DiskN w d m) (nm : List UInt8) (hn : nm.length ≤ 9223372036854775807) :
  Calls Tryz.prog 29 #[.pointer (some ⟨d, 0, none⟩), .string (str nm)] w fun e w' => e = .returned (.tuple #[.slice none 0 0, .int .i64 11]) ∧ Ext w w' := by
 have hzf := zero_file
 unfold zfile at hzf
 have hlk := h.map.look nm hn
 have c2 := h.files
 have HE := hid (ext_alloc w (.cells #[.slice none 0 0, .int .i64 0] 81))
 rw [show atL ([] : Raw) nm = none from rfl] at hlk
 simp only [Option.getD_none, Option.isSome_none, zfile] at hlk
 clear h
 go_enter Tryz.func29, Tryz.ntmps29
 go_wp2
 go_ret2
 exact ⟨rfl, HE.out⟩
structure LoadN (w : World) (ds : List DefV) (e : Ending) (w' : World) : Prop where
 ext : Ext w w'
 ans : ∃ p L S, e = .returned (.tuple #[.int .i64 0, .pointer (some ⟨p, 0, none⟩), .int .i64 0]) ∧ SetIs w' S p L ∧ viewP L = ds.map (fun d => (d, []))
set_option maxRecDepth 100000 in
set_option maxHeartbeats 2000000 in
theorem ckLoadN_at {w : World} {d m : Nat} (h : DiskN w d m) {A : Option Addr} {n c : Nat} {ds : List DefV} (hx : SlR RDef w (· < w.heap.size) A n c ds) (h0 : defsE ds = 0) (most : Int) :
  Calls Tryz.prog 14 #[.pointer (some ⟨d, 0, none⟩), .slice A n c, .int .i64 most] w fun e w' => LoadN w ds e w' := by
 have HD := hid h; have HX := hid hx; have H0 := hid h0
 clear h hx h0
 go_enter Tryz.func14, Tryz.ntmps14
 go_wp2_with fail
 go_loopw [19] (fun i wr => ∃ k : Nat, k ≤ 2 ∧ i = .int .i64 (k : Int) ∧ Hid (Ext w wr)) (fun i _ => 2 - (intOf i).toNat)
 case atStart => exact ⟨0, by omega, rfl, hid (Below.refl _ _)⟩
 case round =>
  obtain ⟨k, hk, rfl, HE⟩ := hrel
  by_cases h2 : k = 2
  ·subst h2
   have hnew := projNew2_at (HX.out.grow HE.out)
   go_wp2_with fail
   refine hnew.mono ?_
   clear hnew
   rintro e w2 ⟨hE2, hans⟩
   rcases hans with ⟨h, -⟩ | ⟨-, p, L, S, rfl, hS, hv, -, -, -⟩
   ·exact absurd H0.out h
   have hpost := hid (show LoadN w ds (.returned (.tuple #[.int .i64 0, .pointer (some ⟨p, 0, none⟩), .int .i64 0])) w2 from ⟨HE.out.trans' hE2, p, L, S, rfl, hS, hv⟩)
   clear hS hv hE2
   go_wp2
   go_ret3
   exact hpost.out
  ·have hcc := fun nm hn => ckRead_at (HD.out.ext HE.out) nm hn
   by_cases h1 : k = 0
   ·subst h1
    have hc1 := hcc [99, 104, 101, 99, 107] (by decide)
    have hix : ∀ w, (Instr.index 90 (.agg #[.string { data := #[99, 104, 101, 99, 107] }, .string { data := #[99, 104, 101, 99, 107, 95, 110, 101, 119] }]) (.int .i64 0)).run Tryz.prog w = .ok (.string { data := #[99, 104, 101, 99, 107] }) w := fun w => by kernel_rfl
    clear hcc
    go_wp2_with fail
    refine hc1.mono ?_
    clear hc1
    rintro e w2 ⟨rfl, hE2⟩
    have HE2 := hid (HE.out.trans' hE2)
    clear hE2
    go_wp2_with fail
    go_roundw
    case rel => exact ⟨1, by omega, by go_num, HE2⟩
    case measure => simp [intOf]
   ·obtain rfl : k = 1 := by omega
    have hc1 := hcc [99, 104, 101, 99, 107, 95, 110, 101, 119] (by decide)
    have hix : ∀ w, (Instr.index 90 (.agg #[.string { data := #[99, 104, 101, 99, 107] }, .string { data := #[99, 104, 101, 99, 107, 95, 110, 101, 119] }]) (.int .i64 1)).run Tryz.prog w = .ok (.string { data := #[99, 104, 101, 99, 107, 95, 110, 101, 119] }) w := fun w => by kernel_rfl
    clear hcc
    go_wp2_with fail
    refine hc1.mono ?_
    clear hc1
    rintro e w2 ⟨rfl, hE2⟩
    have HE2 := hid (HE.out.trans' hE2)
    clear hE2
    go_wp2_with fail
    go_roundw
    case rel => exact ⟨2, by omega, by go_num, HE2⟩
    case measure => simp [intOf]
set_option maxRecDepth 100000 in
set_option maxHeartbeats 4000000 in
theorem shown17_at (w : World) : Calls Tryz.prog 8 #[] w fun e w' => e = .returned (.bool true) ∧ Ext w w' := by
 have hs1 : (w.alloc (.cells #[.slice none 0 0, .slice none 0 0] 67)).heap.size = w.heap.size + 1 := by simp
 have hE1 := ext_alloc w (.cells #[.slice none 0 0, .slice none 0 0] 67)
 have hcl : SlR RCl (w.alloc (.cells #[.slice none 0 0, .slice none 0 0] 67)) (· < w.heap.size + 1) (some ⟨w.heap.size, 0, none⟩) 1 1 [allC] :=
  slR_box (R := RCl) (cs := [.slice none 0 0, .slice none 0 0]) (x := allC) (cl_mk (c := allC) (slR_nil _ _) (slR_nil _ _)) (Nat.lt_succ_self _)
 have hE2 := ext_alloc (w.alloc (.cells #[.slice none 0 0, .slice none 0 0] 67)) (.cells #[.int .i64 1, .string { data := #[] }, .slice (some ⟨w.heap.size, 0, none⟩) 1 1] 72)
 have hdf : SlR RDef ((w.alloc (.cells #[.slice none 0 0, .slice none 0 0] 67)).alloc (.cells #[.int .i64 1, .string { data := #[] }, .slice (some ⟨w.heap.size, 0, none⟩) 1 1] 72)) (· < ((w.alloc (.cells #[.slice none 0 0, .slice none 0 0] 67)).alloc (.cells #[.int .i64 1, .string { data := #[] }, .slice (some ⟨w.heap.size, 0, none⟩) 1 1] 72)).heap.size) (some ⟨w.heap.size + 1, 0, none⟩) 1 1 [d0] := by
  have := slR_box (R := RDef) (K := (· < ((w.alloc (.cells #[.slice none 0 0, .slice none 0 0] 67)).alloc (.cells #[.int .i64 1, .string { data := #[] }, .slice (some ⟨w.heap.size, 0, none⟩) 1 1] 72)).heap.size)) (cs := [.int .i64 1, .string { data := #[] }, .slice (some ⟨w.heap.size, 0, none⟩) 1 1]) (x := d0) (t := 72) (w := w.alloc (.cells #[.slice none 0 0, .slice none 0 0] 67)) (def_mk (d := d0) (Nat.zero_le _) ((hcl.ext fun k hk => hE2.block k (by rw [hs1]; exact hk)).mono fun k hk => by simp; omega)) (by simp)
  rwa [hs1] at this
 have HE2 := hid (Ext.trans' hE1 hE2)
 have HDf := hid hdf
 have hcc := ckDisk_at 9 ((w.alloc (.cells #[.slice none 0 0, .slice none 0 0] 67)).alloc (.cells #[.int .i64 1, .string { data := #[] }, .slice (some ⟨w.heap.size, 0, none⟩) 1 1] 72))
 clear hE1 hE2 hcl hdf
 go_enter Tryz.func8, Tryz.ntmps8
 go_wp2_with fail
 generalize (w.alloc (.cells #[.slice none 0 0, .slice none 0 0] 67)).alloc (.cells #[.int .i64 1, .string { data := #[] }, .slice (some ⟨w.heap.size, 0, none⟩) 1 1] 72) = w2 at *
 refine hcc.mono ?_
 clear hcc hs1
 rintro e w3 ⟨d, m, rfl, hD, hE3⟩
 have hcc := ckLoadN_at hD (HDf.out.grow hE3) (by decide) 5
 have HE3 := hid (HE2.out.trans' hE3)
 clear hD hE3
 go_wp2_with fail
 refine hcc.mono ?_
 clear hcc
 rintro e w4 ⟨hE4, p, L, S, rfl, hS, hv⟩
 have HE4 := hid (HE3.out.trans' hE4)
 have hmn := setMany_at hS
 have hl : L.length = 1 := by rw [← viewP_len, hv]; rfl
 rw [hl] at hmn
 clear hS hv hE4 hl
 go_wp2_with fail
 refine hmn.mono ?_
 clear hmn
 rintro e wx ⟨rfl, hw⟩
 obtain rfl : w4 = wx := hw.symm
 clear hw
 go_wp2
 go_ret
 exact ⟨rfl, HE4.out⟩
set_option maxRecDepth 100000 in
theorem few_at {w : World} {K : Nat → Prop} {A : Option Addr} {n c : Nat} {ds : List DefV} (hx : SlR RDef w K A n c ds) :
  Calls Tryz.prog 9 #[.slice A n c] w fun e w' => (∃ n', e = .returned (.slice A n' c) ∧ n' ≤ 5 ∧ SlR RDef w K A n' c (ds.take 5)) ∧ w' = w := by
 have hn := hx.1
 have hnc := hx.2.1
 have hcm := hx.2.2.1
 go_enter Tryz.func9, Tryz.ntmps9
 by_cases h5 : 5 < n
 ·have hlt : (5 : Int) < (n : Int) := by omega
  have H := hid (slR_take hx 5 (by omega))
  clear hx hn
  go_wp2
  go_ret
  exact ⟨⟨5, rfl, Nat.le_refl _, H.out⟩, rfl⟩
 ·have hlt : ¬ ((5 : Int) < (n : Int)) := by omega
  have H := hid (show SlR RDef w K A n c (ds.take 5) by rw [List.take_of_length_le (by omega)]; exact hx)
  clear hx hn
  go_wp2
  go_ret
  exact ⟨⟨n, rfl, by omega, H.out⟩, rfl⟩
set_option maxRecDepth 100000 in
theorem states_at {w : World} {S : Nat → Prop} {p : Nat} {L : List Pc} (h : SetIs w S p L) (hf : PutFit (viewP L)) :
  Calls Tryz.prog 24 #[.pointer (some ⟨p, 0, none⟩)] w fun e w' => e = .returned (.string (str (setB (viewP L)))) ∧ Ext w w' := by
 have hcc := setPut_at h hf
 clear h hf
 go_enter Tryz.func24, Tryz.ntmps24
 go_wp2_with fail
 refine hcc.mono ?_
 clear hcc
 rintro e w' ⟨hE, v, rfl, hO⟩
 obtain ⟨A3, n3, c3, rfl, rfl, -, hr3⟩ := OB.rd hO
 have hs := run_str hr3 c3
 have HE := hid hE
 clear hO hr3 hE
 go_wp2
 go_ret
 exact ⟨rfl, HE.out⟩
end Go.Proofs.YtakebdeldndaaaaGreatDoor
/- registrarlaw17.folded. -/
namespace Go.Proofs.YtakebdeldndaaaaGreatDoor
open Go Go.RowKit
set_option linter.unusedSimpArgs false
set_option linter.unusedVariables false
end Go.Proofs.YtakebdeldndaaaaGreatDoor
