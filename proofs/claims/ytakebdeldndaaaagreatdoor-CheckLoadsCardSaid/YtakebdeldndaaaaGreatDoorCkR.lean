/- Several texts of this claim's, one behind the other. -/
import Derived.Test.YtakebdeldndaaaaGreatDoorCrc
import Derived.Deep.RegionHeld3
import Derived.Test.YtakebdeldndaaaaGreatDoorSv
import Derived.Test.YtakebdeldndaaaaGreatDoorRs
import Derived.WalkLawsBesides
import Derived.Test.YtakebdeldndaaaaGreatDoorCkClean
import Derived.Test.YtakebdeldndaaaaGreatDoorRDb
/- The walks of the reference of chapter 2: Entry, Sum, Seal, Open. -/
namespace Go.Proofs.YtakebdeldndaaaaGreatDoor
open Go Go.RowKit
set_option linter.unusedSimpArgs false
set_option linter.unusedVariables false
set_option maxRecDepth 100000 in
theorem entry_calls (i : Int) (h0 : 0 ≤ i) (h1 : i < 4294967296) (w : World) :
  Calls Tryz.prog 198 #[.int .i64 i] w fun e w' => e = .returned (.int .u32 ((Crc.tab i.toNat).toNat : Int)) ∧ w = w' := by
 obtain ⟨n, rfl⟩ := Int.eq_ofNat_of_zero_le h0
 have hn : n < 4294967296 := by omega
 rw [Int.toNat_natCast]
 have hmod : ((n : Int) % 4294967296) = n := by omega
 have hb0 : (BitVec.ofNat 32 n).toNat = n := by simp; omega
 have Hb := hid hb0
 clear hn h0 h1 hb0
 go_enter Tryz.func198, Tryz.ntmps198
 go_wp2
 go_loop [3, 4] (fun x j => ∃ (m : Nat) (y : BitVec 32), m ≤ 8 ∧ j = .int .i64 m ∧ x = .int .u32 (y.toNat : Int) ∧ Hid (y = Nat.repeat Crc.step m (BitVec.ofNat 32 n))) (fun _ j => 8 - (intOf j).toNat)
 case atStart => exact ⟨0, BitVec.ofNat 32 n, by omega, rfl, by rw [Hb.out], rfl⟩
 case round =>
  clear hmod
  obtain ⟨m, y, hm, rfl, rfl, Hy⟩ := hrel
  by_cases hmt : m < 8
  ·have e := step_bits y
   have hy := y.isLt
   by_cases hb : y.toNat % 2 = 1
   ·have hb' : ((y.toNat : Int) % 2 == 1) = true := by rw [beq_iff_eq]; omega
    rw [if_pos hb] at e
    clear hb hy
    go_wp2
    all_goals
     go_round
     case rel => exact ⟨m + 1, Crc.step y, by omega, by go_num, rfl, by rw [Hy.out]; rfl⟩
     case measure => simp [intOf]; omega
   ·have hb' : ((y.toNat : Int) % 2 == 1) = false := by rw [beq_eq_false_iff_ne]; omega
    rw [if_neg hb] at e
    clear hb hy
    go_wp2
    all_goals
     go_round
     case rel => exact ⟨m + 1, Crc.step y, by omega, by go_num, by rw [← e], by rw [Hy.out]; rfl⟩
     case measure => simp [intOf]; omega
  ·obtain rfl : m = 8 := by omega
   have hy : y = Crc.tab n := by rw [Crc.tab_repeat]; exact Hy.out
   subst hy
   go_wp2
   go_ret
   exact ⟨rfl, rfl⟩
set_option maxRecDepth 100000 in
theorem refSum_calls (A : Option Addr) (c : Nat) (bs : List UInt8) (w : World) (hm : bs.length ≤ 140737488355328) (hb : RB w A bs) :
  Calls Tryz.prog 166 #[.slice A bs.length c] w fun e w' => e = .returned (.int .u32 ((Crc.sum bs).toNat : Int)) ∧ w = w' := by
 obtain ⟨n, hn⟩ : ∃ n, n = bs.length := ⟨_, rfl⟩
 rw [← hn] at hm ⊢
 have Hn := hid hn; clear hn
 go_enter Tryz.func166, Tryz.ntmps166
 go_wp2
 go_loop [3, 4] (fun r i => ∃ k : Nat, k ≤ n ∧ i = .int .i64 k ∧ r = .int .u32 ((Crc.reg Crc.ones (bs.take k)).toNat : Int)) (fun _ i => n - (intOf i).toNat)
 case atStart => exact ⟨0, by omega, rfl, by simp [Crc.reg, Crc.ones]⟩
 case round =>
  obtain ⟨k, hk, rfl, rfl⟩ := hrel
  by_cases hlt : k < n
  ·have hlt' : k < bs.length := by rw [← Hn.out]; exact hlt
   have hs := congrArg BitVec.toNat (show Crc.reg Crc.ones (bs.take (k + 1)) = Crc.upd (Crc.reg Crc.ones (bs.take k)) bs[k] by
    rw [← Crc.reg_snoc, List.take_succ_eq_append_getElem hlt'])
   rw [Crc.upd_toNat] at hs
   have hrl := (Crc.reg Crc.ones (bs.take k)).isLt
   generalize (Crc.reg Crc.ones (bs.take k)).toNat = r at hs hrl ⊢
   obtain ⟨p, o, rfl, hc⟩ := hb.at_ k hlt'
   have hcl := bs[k].toNat_lt
   generalize bs[k].toNat = x at hs hc hcl
   have hx : r % 256 ^^^ x < 2 ^ 8 := Nat.xor_lt_two_pow (by omega) (by omega)
   have e0 : (r ^^^ x) % 256 = r % 256 ^^^ x := by
    rw [show (256 : Nat) = 2 ^ 8 from rfl, Nat.xor_mod_two_pow, Nat.mod_eq_of_lt (a := x) (by omega)]
   have e1 := u32_xor_nat r x (by omega) (by omega)
   have htl := (Crc.tab (r % 256 ^^^ x)).isLt
   have he := entry_calls (((r ^^^ x : Nat) : Int) % 256) (by omega) (by omega) w
   rw [show (((r ^^^ x : Nat) : Int) % 256).toNat = r % 256 ^^^ x by omega] at he
   generalize (Crc.tab (r % 256 ^^^ x)).toNat = y at hs htl he
   generalize r ^^^ x = t at e0 e1 he
   have e2 : bits .xor .u32 ((r : Int) / 256 % 4294967296) (y : Int) = ((r / 256 ^^^ y : Nat) : Int) := by
    rw [show ((r : Int) / 256 % 4294967296) = ((r / 256 : Nat) : Int) by omega]; exact u32_xor_nat (r / 256) y (by omega) htl
   rw [← hs] at e2
   have Hs := hid hs; have He := hid he; have E0 := hid e0; clear hs hb hx hrl htl e0 he
   go_wp2_with (go_at_call 198; refine He.out.mono ?_; rintro e w' ⟨rfl, rfl⟩)
   go_round
   case rel => exact ⟨k + 1, by omega, by go_num, rfl⟩
   case measure => simp [intOf]; omega
  ·obtain rfl : k = n := by omega
   have hl : bs.take k = bs := List.take_of_length_le (by rw [← Hn.out]; exact Nat.le_refl _)
   rw [hl]
   have e3 : bits .xor .u32 ((Crc.reg Crc.ones bs).toNat : Int) 4294967295 = ((Crc.sum bs).toNat : Int) := by
    have := u32_xor_nat (Crc.reg Crc.ones bs).toNat 4294967295 (Crc.reg Crc.ones bs).isLt (by omega)
    rw [show (4294967295 : Int) = ((4294967295 : Nat) : Int) from rfl, this]
    unfold Crc.sum
    rw [BitVec.toNat_xor]
    rfl
   clear hl hb
   go_wp2
   go_ret
   exact ⟨rfl, rfl⟩
set_option maxRecDepth 100000 in
theorem refSeal_calls (A : Option Addr) (c : Nat) (bs : List UInt8) (w : World) (hm : bs.length ≤ 140737488000000) (hb : RB w A bs) :
  Calls Tryz.prog 131 #[.slice A bs.length c] w (RetB w (Crc.seal_ bs)) := by
 obtain ⟨n, hn⟩ : ∃ n, n = bs.length := ⟨_, rfl⟩
 have hnm : n ≤ 140737488000000 := by omega
 rw [← hn]
 have Hn := hid hn; clear hn
 have Hm := hid hm; clear hm
 have Hb := hid hb; clear hb
 go_enter Tryz.func131, Tryz.ntmps131
 go_wp2_with fail
 rw [Hn.out]
 refine (refSum_calls A c bs w (by have := Hm.out; omega) Hb.out).mono ?_
 rintro e w' ⟨rfl, rfl⟩
 go_wp2_with (at_builtin; first
  | (refine wpList_appB (w0 := w) rfl (.tmp 6) (.tmp 7) rfl w.heap.size _ [] rfl (OB_empty w _ (Nat.le_refl _)) ((Below.refl _ _).alloc (Nat.le_refl _) _) (by simp) A c bs.length bs rfl rfl (Hb.out.below ((Below.refl _ _).alloc (Nat.le_refl _) _)) (by have := Hm.out; simp; omega) ?_; intro v w1 Hob Hbel _; have hsz := Hbel.out.size)
  | (refine wpList_appB (w0 := w) rfl (.tmp 8) (.tmp 20) rfl w.heap.size _ _ rfl (World.ownsRow.alloc Hob.out _) (Hbel.out.alloc hsz _) (by simp; omega) _ 4 4 (Crc.le4 (Crc.sum bs)) rfl (Crc.le4_length _).symm (RB_box _ _ _ (by have := (Crc.sum bs).isLt; simp [le4_eq, bvs, bv, byteOf]; omega)) (by have := Hm.out; simp; omega) ?_; intro v2 w2 Hob2 Hbel2 _))
 go_ret
 exact ⟨_, rfl, by rw [Crc.seal_eq]; exact Hob2, Hbel2⟩
set_option maxRecDepth 100000 in
set_option maxHeartbeats 1000000 in
theorem refOpen_calls (A : Option Addr) (c : Nat) (bs : List UInt8) (w : World) (hm : bs.length ≤ 140737488000000) (hc : bs.length ≤ c) (hb : RB w A bs) :
  Calls Tryz.prog 91 #[.slice A bs.length c] w (RetOpen w bs) := by
 obtain ⟨n, hn⟩ : ∃ n, n = bs.length := ⟨_, rfl⟩
 have hnm : n ≤ 140737488000000 := by omega
 have hcn : n ≤ c := by omega
 clear hc
 rw [← hn]
 have Hn := hid hn; clear hn
 have Hm := hid hm; clear hm
 have Hb := hid hb; clear hb
 by_cases h4 : n < 4
 ·have Hg := hid (good_short (bs := bs) (by rw [← Hn.out]; exact h4))
  go_enter Tryz.func91, Tryz.ntmps91
  go_wp2
  go_ret2
  exact ⟨⟨_, by rw [Hg.out]; rfl, by rw [Hg.out]; exact OB_nil _ _⟩, Below.refl _ _⟩
 ·have h4' : 4 ≤ n := by omega
  go_enter Tryz.func91, Tryz.ntmps91
  go_wp2_with (at_builtin; refine wpList_appB (w0 := w) rfl (.tmp 8) (.tmp 13) rfl w.heap.size _ [] rfl (OB_empty w _ (Nat.le_refl _)) ((Below.refl _ _).alloc (Nat.le_refl _) _) (by simp) A c (n - 4) (bs.take (n - 4)) rfl (show n - 4 = _ by rw [List.length_take, ← Hn.out]; omega) ((Hb.out.take (n - 4)).below ((Below.refl _ _).alloc (Nat.le_refl _) _)) (by have := Hm.out; simp; omega) ?_; intro v w1 Hob Hbel _; have hsz := Hbel.out.size)
  rw [List.nil_append] at Hob
  obtain ⟨A1, c1, rfl, -, hr1⟩ := Hob.out.read
  have Hr1 := hid hr1; clear hr1
  have hq : (Crc.seal_ (bs.take (n - 4)) == bs) = Crc.good bs := by
   unfold Crc.good; rw [← Hn.out]; simp [h4']
  have hl1 : (bs.take (n - 4)).length ≤ 140737488000000 := by have := Hm.out; simp; omega
  have Hl1 := hid hl1; clear hl1
  have Hq := hid hq; clear hq
  have Hw1 := hid (Hb.out.below Hbel.out)
  obtain ⟨x, hx⟩ : ∃ x, x = bs.take (n - 4) := ⟨_, rfl⟩
  rw [← hx] at Hob Hr1 Hl1 Hq ⊢
  have Hx := hid hx; clear hx
  refine wp_drawn [isV (.slice A1 x.length c1), ownsV w1.heap.size (Crc.seal_ x), isV (.string (str (Crc.seal_ x))), isV (.slice A n c), isV (.string (str bs)), isV (.bool (!Crc.good bs))] (by kernel_rfl) ?hok ?steps ?fin
  case hok => kernel_rfl
  case steps =>
   refine ⟨?s0, ?s1, ?s2, ?s3, ?s4, ?s5, trivial⟩
   case s1 =>
    intro v W hE hd; simp only [Region.wanted, ↓reduceIte]; (try simp [deps, waitsOn, Region.binds, knowing, isV, ownsV, anyV] at hd); simp only [putAll, List.take_succ_cons, List.take_zero, List.drop_succ_cons, List.drop_zero, Act.put, List.setIfInBounds_toArray, List.set_cons_zero, List.set_cons_succ, Nat.zero_add, Nat.reduceAdd]
    go_simp
    have hcc := refSeal_calls A1 c1 x W Hl1.out (Hr1.out.below hE)
    refine hcc.mono ?_
    rintro e w2 ⟨v2, rfl, Hob2, Hbel2⟩
    have HO := hid Hob2; have HB := hid Hbel2; clear Hob2 Hbel2
    go_simp
    exact ⟨HB.out, HO.out.base hE.size⟩
   case s2 =>
    intro v W hE hd; simp only [Region.wanted, ↓reduceIte]; (try simp [deps, waitsOn, Region.binds, knowing, isV, ownsV, anyV] at hd); simp only [putAll, List.take_succ_cons, List.take_zero, List.drop_succ_cons, List.drop_zero, Act.put, List.setIfInBounds_toArray, List.set_cons_zero, List.set_cons_succ, Nat.zero_add, Nat.reduceAdd]
    obtain ⟨A2, c2, e2, -, hr2⟩ := OB.read hd
    have e3 := run_str hr2 c2
    go_simp
    exact ⟨Below.refl _ _, rfl⟩
   case s4 =>
    intro v W hE hd; simp only [Region.wanted, ↓reduceIte]; (try simp [deps, waitsOn, Region.binds, knowing, isV, ownsV, anyV] at hd); simp only [putAll, List.take_succ_cons, List.take_zero, List.drop_succ_cons, List.drop_zero, Act.put, List.setIfInBounds_toArray, List.set_cons_zero, List.set_cons_succ, Nat.zero_add, Nat.reduceAdd]
    have e3 := run_str (Hw1.out.below hE) c
    rw [← Hn.out] at e3
    go_simp
    exact ⟨Below.refl _ _, rfl⟩
   case s5 =>
    intro v W hE hd; simp only [Region.wanted, ↓reduceIte]; (try simp [deps, waitsOn, Region.binds, knowing, isV, ownsV, anyV] at hd); simp only [putAll, List.take_succ_cons, List.take_zero, List.drop_succ_cons, List.drop_zero, Act.put, List.setIfInBounds_toArray, List.set_cons_zero, List.set_cons_succ, Nat.zero_add, Nat.reduceAdd]
    go_simp
    refine ⟨Below.refl _ _, ?_⟩
    rw [← Hq.out]
    simp [str_toList, knowing, isV, bne]
   all_goals (intro v W hE hd; simp only [Region.wanted, ↓reduceIte]; (try simp [deps, waitsOn, Region.binds, knowing, isV, ownsV, anyV] at hd); simp only [putAll, List.take_succ_cons, List.take_zero, List.drop_succ_cons, List.drop_zero, Act.put, List.setIfInBounds_toArray, List.set_cons_zero, List.set_cons_succ, Nat.zero_add, Nat.reduceAdd]; go_simp; exact ⟨Below.refl _ _, rfl⟩)
  case fin =>
   rintro v W hE ⟨h0, h1, h2, h3, h4, h5, -⟩
   have e5 : v 5 = .bool (!Crc.good bs) := h5
   simp only [putAll, List.take_succ_cons, List.take_zero, List.drop_succ_cons, List.drop_zero, Act.put, List.setIfInBounds_toArray, List.set_cons_zero, List.set_cons_succ, Nat.zero_add, Nat.reduceAdd]
   rw [e5]
   have hO := Hob.out.below hE
   have hB := below_then Hbel.out Hbel.out.size hE
   clear hE h0 h1 h2 h3 h4 h5 e5
   cases hg : Crc.good bs
   ·go_wp2
    go_ret2
    exact ⟨⟨_, by rw [hg]; rfl, by rw [hg]; exact OB_nil _ _⟩, hB⟩
   ·go_wp2
    go_ret2
    exact ⟨⟨_, by rw [hg]; rfl, by rw [hg, ← Hn.out, if_pos rfl, ← Hx.out]; exact hO⟩, hB⟩
theorem rOpen_at (A : Option Addr) (n c : Nat) (bs : List UInt8) (w : World) (hn : n = bs.length) (hm : n ≤ 140737488000000) (hc : n ≤ c) (hb : RB w A bs) :
  Calls Tryz.prog 91 #[.slice A n c] w (RetOpen w bs) := by
 subst hn
 exact refOpen_calls A c bs w hm hc hb
end Go.Proofs.YtakebdeldndaaaaGreatDoor
/- registrarref17: Take. -/
namespace Go.Proofs.YtakebdeldndaaaaGreatDoor
open Go Go.RowKit
set_option linter.unusedSimpArgs false
set_option linter.unusedVariables false
structure RTakeIs (w : World) (ds : List DefV) (b : List UInt8) (e : Ending) (w' : World) : Prop where
 ext : Ext w w'
 ans : (defsE ds ≠ 0 ∧ e = .returned (.tuple #[.int .i64 0, .pointer none, .int .i64 (defsE ds)])) ∨
  (defsE ds = 0 ∧ takeO ds b = none ∧ e = .returned (.tuple #[.int .i64 0, .pointer none, .int .i64 2])) ∨
  (defsE ds = 0 ∧ ∃ last Es p L S, takeO ds b = some (last, Es) ∧ e = .returned (.tuple #[.int .i64 last, .pointer (some ⟨p, 0, none⟩), .int .i64 0]) ∧ RSetIs w' S p L ∧ viewP L = ds.zip Es)
set_option maxRecDepth 100000 in
set_option maxHeartbeats 4000000 in
theorem refTake_at {w : World} {A : Option Addr} {n c : Nat} {ds : List DefV} (hx : SlR RDef w (· < w.heap.size) A n c ds) {B : Option Addr} {m d : Nat} {b : List UInt8} (hm : m = b.length) (hmd : m ≤ d) (hb : RB w B b) (hlen : m ≤ 1800000) :
  Calls Tryz.prog 48 #[.slice A n c, .slice B m d] w fun e w' => RTakeIs w ds b e w' := by
 have HX := hid hx
 have Hm := hid hm
 have Hb := hid hb
 have hpd := refPutDefs_at hx
 clear hx hb hm
 go_enter Tryz.func48, Tryz.ntmps48
 go_wp2_with fail
 refine hpd.mono ?_
 clear hpd
 rintro e w1 ⟨v0, rfl, hO0, hE⟩
 have HE1 := hid hE
 have HO0 := hid hO0
 clear hE hO0
 by_cases h0 : defsE ds = 0
 rotate_left
 ·have Hpost := hid (fun W (hE : Ext w W) => (⟨hE, .inl ⟨h0, rfl⟩⟩ : RTakeIs w ds b (.returned (.tuple #[.int .i64 0, .pointer none, .int .i64 (defsE ds)])) W))
  generalize defsE ds = me at *
  have hx : (me != 0) = true := by simpa using h0
  have hx2 : (me == 0) = false := by simpa using h0
  clear h0 HO0
  go_wp2
  go_ret3
  exact Hpost.out _ HE1.out
 have H0 := hid h0
 rw [h0]
 have HOp := hid (HO0.out h0)
 clear HO0 h0
 obtain ⟨Ap, np, cp, rfl, hnp, hcp, hRp⟩ := OB.rd HOp.out
 have HRp := hid hRp; have Hnp := hid hnp
 clear hRp hnp HOp
 have hcc := rOpen_at B m d b w1 Hm.out (by omega) hmd (RB.below Hb.out HE1.out)
 go_wp2_with fail
 refine hcc.mono ?_
 clear hcc
 rintro e w4 ⟨⟨v4, rfl, hO4⟩, hB4⟩
 have HEx := hid (HE1.out.trans' hB4)
 have HRp4 := hid (RB.below HRp.out hB4)
 cases hg : Crc.good b
 ·have HNo := hid (take_bad (ds := ds) hg)
  clear hO4 hB4 hg
  -- none is taken: HNo
  have hpost := hid (show RTakeIs w ds b (.returned (.tuple #[.int .i64 0, .pointer none, .int .i64 2])) w4 from ⟨HEx.out, .inr (.inl ⟨H0.out, HNo.out, rfl⟩)⟩)
  clear HNo
  go_wp2
  go_ret3
  exact hpost.out
 rw [hg, if_pos rfl] at hO4
 have hO4 : OB w4 w1.heap.size v4 (b.take (b.length - 4)) := hO4
 obtain ⟨Ax, cx, rfl, hRx⟩ := ob_out (S := fun _ => False) hO4 (fun k hk => hk.elim)
 have HTk := hid (show takeO ds b = if ((numS (b.take (b.length - 4))).2.2 || (textS (numS (b.take (b.length - 4))).2.1).2.2) = true ∨ (numS (b.take (b.length - 4))).1 < 0 ∨ 1048576 < (numS (b.take (b.length - 4))).1 ∨ (textS (numS (b.take (b.length - 4))).2.1).1 ≠ dfsB ds then none
  else (ldAll ds (textS (numS (b.take (b.length - 4))).2.1).2.1).map fun Es => ((numS (b.take (b.length - 4))).1, Es) from by unfold takeO; rw [hg]; rfl)
 have Hlx := hid (show (b.take (b.length - 4)).length ≤ 1800000 by rw [List.length_take]; have := Hm.out; omega)
 clear hO4 hg
 generalize b.take (b.length - 4) = x at *
 have hEb := ext_alloc w4 (.cells #[.slice Ax x.length cx, .bool false] 144)
 have HR := hid (show RrIs (w4.alloc (.cells #[.slice Ax x.length cx, .bool false] 144)) (fun k => k = w4.heap.size) w4.heap.size x false from
  ⟨⟨Ax, cx, heap_alloc_last _ _, slR_more hRx hEb fun k hk => .inr (by omega)⟩, rfl⟩)
 have HEb := hid hEb
 have hs1 := HE1.out.size
 have hs4 := hB4.size
 clear hEb hRx hB4
 generalize hxl : x.length = xl at *
 have Hxl := hid hxl
 clear hxl
 go_wp2_with fail
 obtain ⟨r, hr⟩ : ∃ r, r = w4.heap.size := ⟨_, rfl⟩
 rw [← hr] at HR ⊢
 have Hr := hid hr
 clear hr
 generalize w4.alloc (.cells #[.slice Ax xl cx, .bool false] 144) = w5 at *
 have hcc := rrNum_at HR.out
 refine hcc.mono ?_
 clear hcc
 rintro e w6 ⟨rfl, hR, hK⟩
 have HE6 := hid (show Ext w4 w6 from HEb.out.trans (hK.below (by rw [Hr.out]; exact Nat.le_refl _) (by rw [Hr.out]; exact Nat.le_refl _) HEb.out.size))
 have hnl := numS_len x
 generalize (numS x).1 = a at *
 generalize (numS x).2.2 = f1 at *
 generalize (numS x).2.1 = y at *
 rw [Bool.false_or] at hR
 have hcc := rrText_at hR (by have := Hlx.out; have := Hxl.out; omega)
 have Hyl := hid (show y.length ≤ 1800000 by have := Hlx.out; have := Hxl.out; omega)
 clear hR hK hnl HR HEb
 go_wp2_with fail
 refine hcc.mono ?_
 clear hcc
 rintro e w7 ⟨rfl, hR, hK⟩
 have HE7 := hid (show Ext w4 w7 from HE6.out.trans (hK.below (by rw [Hr.out]; exact Nat.le_refl _) (by rw [Hr.out]; exact Nat.le_refl _) HE6.out.size))
 have htl := textS_len y
 generalize (textS y).1 = t at *
 generalize (textS y).2.2 = f2 at *
 generalize (textS y).2.1 = rest at *
 have HRd := hid hR
 have Hrl := hid (show rest.length ≤ 1800000 by have := Hyl.out; omega)
 have HEx := hid (show Ext w w7 from Ext.trans' HEx.out HE7.out)
 have HRp7 := hid (RB.below HRp4.out HE7.out)
 clear hR hK htl HE6 HRp4
 generalize hfb : (f1 || f2) = fb at *
 have Hfb := hid hfb
 clear hfb
 have hnew := refSetNew_at (HX.out.grow HEx.out) (Nat.le_refl _)
 go_wp2_with fail
 refine hnew.mono ?_
 clear hnew
 rintro e w8 ⟨hE8, hans⟩
 rcases hans with ⟨h, -⟩ | ⟨-, p, L, S, rfl, hS, hv, hR, hSl, hSb, hb⟩
 ·exact absurd H0.out h
 obtain ⟨hl4, -⟩ := defsE_zero H0.out
 have HEx := hid (show Ext w w8 from Ext.trans' HEx.out hE8)
 have HRp8 := hid (RB.below HRp7.out hE8)
 obtain ⟨Ar, cr, hq1, hq2⟩ := (HRd.out.ext hE8).row
 obtain ⟨Ar7, cr7, hq7, hq72⟩ := HRd.out.row
 have hee : w8.heap[r]? = w7.heap[r]? := hE8.block r HRd.out.lt
 rw [hq1, hq7] at hee
 simp only [Option.some.injEq, Obj.cells.injEq, Array.mk.injEq, List.cons.injEq, Value.slice.injEq, and_true, true_and] at hee
 obtain ⟨rfl, rfl⟩ := hee
 have r0 : w8.cell? ⟨r, 0, none⟩ = some (.slice Ar rest.length cr) := by rw [cell_of_row _ _ _ _ _ _ hq1]; rfl
 have r1 : w8.cell? ⟨r, 1, none⟩ = some (.bool fb) := by rw [cell_of_row _ _ _ _ _ _ hq1]; rfl
 have hS7 : ∀ k, S k → w7.heap.size ≤ k := hSb
 have hSlt : ∀ k, (fun k => k = p ∨ Blk L k) k → k < w8.heap.size := fun k hk => (hb k hk.symm).2
 have hAl2 : SlR Rep.u8 w8 (Out (fun k => k = p ∨ Blk L k) w8) Ar rest.length cr rest := (hq72.ext fun k hk => hE8.block k hk.1).mono fun k hk => ⟨Nat.lt_of_lt_of_le hk.1 hE8.size, fun h => by have := (hb k h.symm).1; have := hk.1; omega⟩
 have hSet : RSetIs w8 (fun k => k = p ∨ Blk L k) p L := hS.less (fun k hk => by
  rcases hk with rfl | hk
  ·exact hS.pIn
  ·exact (hS.pcs.lt hk).2) (fun k hk => .inr hk) (.inl rfl)
 have Hds := hid (viewP_ds L ds hv)
 have hll : L.length ≤ 4 := by rw [← viewP_len, hv, List.length_map]; exact hl4
 have hDl : ∀ x ∈ L, x.D.length ≤ 999000 := fun x hx => by
  have h1 : (x.d, x.D) ∈ viewP L := List.mem_map.2 ⟨x, hx, rfl⟩
  rw [hv] at h1
  obtain ⟨d0, -, e0⟩ := List.mem_map.1 h1
  simp only [Prod.mk.injEq] at e0
  rw [← e0.2]; simp
 have hcc := refSetLoad_at hSet hSlt (by omega) hDl hAl2 Hrl.out
 have HSp := hid (show w7.heap.size ≤ p from (hb p (.inr rfl)).1)
 have Hsz := hid (show w.heap.size ≤ w7.heap.size by have := HE7.out.size; omega)
 have HE8x := hid hE8
 clear hS hv hR hSl hSb hb hE8 hl4 hq1 hq2 hq7 hq72 hS7 hSlt hAl2 hSet hll hDl HRd
 generalize hrl : rest.length = rl at *
 have Hrl2 := hid hrl
 clear hrl
 cases fb
 rotate_left
 ·have HNo := hid (show takeO ds b = none by rw [HTk.out, if_pos (.inl rfl)])
  clear hcc
  -- none is taken: HNo
  have hpost := hid (show RTakeIs w ds b (.returned (.tuple #[.int .i64 0, .pointer none, .int .i64 2])) w8 from ⟨HEx.out, .inr (.inl ⟨H0.out, HNo.out, rfl⟩)⟩)
  clear HNo
  go_wp2
  go_ret3
  exact hpost.out
 by_cases ha0 : a < 0
 ·have HNo := hid (show takeO ds b = none by rw [HTk.out, if_pos (.inr (.inl ha0))])
  clear hcc
  -- none is taken: HNo
  have hpost := hid (show RTakeIs w ds b (.returned (.tuple #[.int .i64 0, .pointer none, .int .i64 2])) w8 from ⟨HEx.out, .inr (.inl ⟨H0.out, HNo.out, rfl⟩)⟩)
  clear HNo
  go_wp2
  go_ret3
  exact hpost.out
 by_cases ha1 : 1048576 < a
 ·have HNo := hid (show takeO ds b = none by rw [HTk.out, if_pos (.inr (.inr (.inl ha1)))])
  clear hcc
  -- none is taken: HNo
  have hpost := hid (show RTakeIs w ds b (.returned (.tuple #[.int .i64 0, .pointer none, .int .i64 2])) w8 from ⟨HEx.out, .inr (.inl ⟨H0.out, HNo.out, rfl⟩)⟩)
  clear HNo
  go_wp2
  go_ret3
  exact hpost.out
 have hs := run_str HRp8.out cp
 rw [← Hnp.out] at hs
 by_cases htx : t = dfsB ds
 rotate_left
 ·have HNo := hid (show takeO ds b = none by rw [HTk.out, if_pos (.inr (.inr (.inr htx)))])
  have hne : ((str t).toList == (str (dfsB ds)).toList) = false := by rw [str_toList, str_toList]; exact beq_eq_false_iff_ne.2 htx
  have hne2 : ((str t).toList != (str (dfsB ds)).toList) = true := by rw [str_toList, str_toList]; exact bne_iff_ne.2 htx
  generalize dfsB ds = bp at *
  clear htx hcc
  -- none is taken: HNo
  have hpost := hid (show RTakeIs w ds b (.returned (.tuple #[.int .i64 0, .pointer none, .int .i64 2])) w8 from ⟨HEx.out, .inr (.inl ⟨H0.out, HNo.out, rfl⟩)⟩)
  clear HNo
  go_wp2
  go_ret3
  exact hpost.out
 have HTk2 := hid (show takeO ds b = (ldAll ds rest).map fun Es => (a, Es) from by rw [HTk.out, if_neg (by rintro (h | h | h | h); cases h; exact ha0 h; exact ha1 h; exact h htx)])
 subst htx
 generalize dfsB ds = bp at *
 clear HTk Hfb
 go_wp2_with fail
 clear hs
 refine hcc.mono ?_
 clear hcc r0 r1
 rintro e w9 hD
 have HEx := hid (show Ext w w9 from HEx.out.trans (hD.kept.below (by have := HSp.out; have := Hsz.out; omega) (by have := HSp.out; have := Hsz.out; omega) HEx.out.size))
 rcases hD.ans with ⟨Es, L9, S9, e1, rfl, g1, g2, -, -, -, -⟩ | ⟨e1, rfl, -⟩
 ·rw [Hds.out] at e1 g2
  have hpost := hid (show RTakeIs w ds b (.returned (.tuple #[.int .i64 a, .pointer (some ⟨p, 0, none⟩), .int .i64 0])) w9 from ⟨HEx.out, .inr (.inr ⟨H0.out, a, Es, p, L9, S9, by rw [HTk2.out, e1]; rfl, rfl, g1, g2⟩)⟩)
  clear e1 g1 g2 hD
  go_wp2
  go_ret3
  exact hpost.out
 ·rw [Hds.out] at e1
  have HNo := hid (show takeO ds b = none by rw [HTk2.out, e1]; rfl)
  clear e1 hD
  -- none is taken: HNo
  have hpost := hid (show RTakeIs w ds b (.returned (.tuple #[.int .i64 0, .pointer none, .int .i64 2])) w9 from ⟨HEx.out, .inr (.inl ⟨H0.out, HNo.out, rfl⟩)⟩)
  clear HNo
  go_wp2
  go_ret3
  exact hpost.out
end Go.Proofs.YtakebdeldndaaaaGreatDoor
/- registrarref17: Load, Save, Clean. -/
namespace Go.Proofs.YtakebdeldndaaaaGreatDoor
open Go Go.RowKit
set_option linter.unusedSimpArgs false
set_option linter.unusedVariables false
structure RLoadIs (w : World) (ds : List DefV) (F : Files) (most : Int) (e : Ending) (w' : World) : Prop where
 ext : Ext w w'
 ans : (defsE ds ≠ 0 ∧ e = .returned (.tuple #[.int .i64 0, .pointer none, .int .i64 (defsE ds)])) ∨
  (defsE ds = 0 ∧ ∃ x p L S, e = .returned (.tuple #[.int .i64 x, .pointer (some ⟨p, 0, none⟩), .int .i64 0]) ∧ (x, viewP L) = loadR ds F most ∧ RSetIs w' S p L)
def NmRow (g : Nat) (a b : List UInt8) (w : World) : Prop := w.cell? ⟨g, 0, none⟩ = some (.string (str a)) ∧ w.cell? ⟨g, 1, none⟩ = some (.string (str b))
theorem NmRow.ext {g : Nat} {a b : List UInt8} {w w' : World} (h : NmRow g a b w) (hE : Ext w w') : NmRow g a b w' := ⟨cell_below hE h.1, cell_below hE h.2⟩
theorem nmrow_mk (w : World) (a b : List UInt8) : NmRow w.heap.size a b (w.alloc (.cells #[.string (str a), .string (str b)] 9)) := by
 have h := heap_alloc_last w (.cells #[.string (str a), .string (str b)] 9)
 constructor <;> · rw [cell_of_row _ _ _ _ _ _ h]; rfl
theorem ok_at {F : Files} (h : OkF F) {nm : List UInt8} {f : File} (hf : atF F nm = some f) : f.b.length ≤ 65536 ∧ f.safe ≤ f.b.length := by
 rcases idx_cases F nm with ⟨h1, -⟩ | ⟨k, hk, f', h1, -, h3⟩
 ·rw [h1] at hf; cases hf
 ·rw [h1] at hf
  simp only [Option.some.injEq] at hf
  subst hf
  have := h F[k] (List.getElem_mem hk)
  rwa [h3] at this
set_option maxRecDepth 100000 in
set_option maxHeartbeats 4000000 in
theorem refLoad17_at {w : World} {S : Nat → Prop} {y g : Nat} {q l : Int} {F : Files} (h : RefIs w S y g q l F) {A : Option Addr} {n c : Nat} {ds : List DefV} (hx : SlR RDef w (· < w.heap.size) A n c ds) (most : Int) :
  Calls Tryz.prog 25 #[.pointer (some ⟨y, 0, none⟩), .slice A n c, .int .i64 most] w fun e w' => RLoadIs w ds F most e w' := by
 have HX := hid hx
 have HD0 := hid h
 have hnew := refSetNew_at hx (Nat.le_refl _)
 clear h hx
 go_enter Tryz.func25, Tryz.ntmps25
 go_wp2_with fail
 refine hnew.mono ?_
 clear hnew
 rintro e w1 ⟨hE1, hans⟩
 rcases hans with ⟨h0, rfl⟩ | ⟨h0, p1, L1, S1, rfl, hS1, hv1, -, -, -, -⟩
 ·have Hpost := hid (show RLoadIs w ds F most (.returned (.tuple #[.int .i64 0, .pointer none, .int .i64 (defsE ds)])) w1 from ⟨hE1, .inl ⟨h0, rfl⟩⟩)
  generalize defsE ds = me at *
  have hx : (me != 0) = true := by simpa using h0
  clear h0 hE1
  go_wp2
  go_ret3
  exact Hpost.out
 have H0 := hid h0
 have HS1 := hid hS1
 have Hv1 := hid hv1
 have hEr := ext_alloc w1 (.cells #[.string (str nmC), .string (str nmN)] 9)
 have HR := hid (nmrow_mk w1 nmC nmN)
 have HE1 := hid (Ext.trans' hE1 hEr)
 have HS1 := hid (HS1.out.ext hEr)
 clear h0 hS1 hv1 hEr hE1
 go_wp2_with fail
 rw [show ({ data := #[99, 104, 101, 99, 107] } : ByteArray) = str nmC from rfl, show ({ data := #[99, 104, 101, 99, 107, 95, 110, 101, 119] } : ByteArray) = str nmN from rfl]
 generalize w1.alloc (.cells #[.string (str nmC), .string (str nmN)] 9) = w0 at *
 generalize w1.heap.size = gr at *
 have HD := hid (HD0.out.ext HE1.out)
 go_loopw [12] (fun i wr => ∃ k : Nat, k ≤ 2 ∧ i = .int .i64 (k : Int) ∧ Hid (Ext w0 wr) ∧ Hid ((1 ≤ k → tryO ds F nmC most = none) ∧ (2 ≤ k → tryO ds F nmN most = none))) (fun i _ => 2 - (intOf i).toNat)
 case atStart => exact ⟨0, by omega, rfl, hid (Below.refl _ _), hid ⟨fun h => by omega, fun h => by omega⟩⟩
 case round =>
  obtain ⟨k, hk, rfl, HE, HN⟩ := hrel
  obtain ⟨r0, r1⟩ := HR.out.ext HE.out
  by_cases h2 : k = 2
  ·subst h2
   have hpost := hid (show RLoadIs w ds F most (.returned (.tuple #[.int .i64 0, .pointer (some ⟨p1, 0, none⟩), .int .i64 0])) wr from ⟨HE1.out.trans' HE.out, .inr ⟨H0.out, 0, p1, L1, S1, rfl, by
     unfold loadR
     rw [HN.out.1 (by omega), HN.out.2 (by omega), Hv1.out], HS1.out.ext HE.out⟩⟩)
   clear r0 r1
   go_wp2
   go_ret3
   exact hpost.out
  ·by_cases h1 : k = 0
   ·subst h1
    have hcc := read_ref (HD.out.ext HE.out) nmC
    go_wp2_with fail
    refine hcc.mono ?_
    clear hcc r0 r1
    rintro e w2 ⟨v, rfl, hO, hE2⟩
    unfold readE
    unfold readB at hO
    have Hok := hid (HD.out.ok)
    cases hat : atF F nmC with
    | none =>
     have HN2 := hid (show (1 ≤ 0 + 1 → tryO ds F nmC most = none) ∧ (2 ≤ 0 + 1 → tryO ds F nmN most = none) from by
      have ht : tryO ds F nmC most = none := by unfold tryO; rw [hat]
      exact ⟨fun _ => ht, fun h => by omega⟩)
     have HE2 := hid (HE.out.trans' hE2)
     clear hO hat hE2
     go_wp2_with fail
     go_roundw
     case rel => exact ⟨0 + 1, by omega, by go_num, HE2, HN2⟩
     case measure => simp [intOf]
    | some f =>
     rw [hat] at hO
     have hO : OB w2 wr.heap.size v f.b := hO
     have hlen := (ok_at Hok.out hat).1
     obtain ⟨Ab, nb, cb, rfl, hnb, hcb, hRb⟩ := OB.rd hO
     have HE2 := hid (HE.out.trans' hE2)
     have hcc := refTake_at ((HX.out.grow HE1.out).grow HE2.out) hnb hcb hRb (by omega)
     have Hat := hid hat
     clear hO hat hE2 hnb hlen hRb
     go_wp2_with fail
     refine hcc.mono ?_
     clear hcc
     rintro e w3 ⟨hE3, hans⟩
     have HE2 := hid (HE2.out.trans' hE3)
     clear hE3
     rcases hans with ⟨h0, rfl⟩ | ⟨h0, htk, rfl⟩ | ⟨h0, last, Es, p, L, S, htk, rfl, hOn, hv⟩
     ·exact absurd H0.out h0
     ·have HN2 := hid (show (1 ≤ 0 + 1 → tryO ds F nmC most = none) ∧ (2 ≤ 0 + 1 → tryO ds F nmN most = none) from by
       have ht : tryO ds F nmC most = none := by unfold tryO; rw [Hat.out]; dsimp only; rw [htk]
       exact ⟨fun _ => ht, fun h => by omega⟩)
      clear htk h0
      go_wp2_with fail
      go_roundw
      case rel => exact ⟨0 + 1, by omega, by go_num, HE2, HN2⟩
      case measure => simp [intOf]
     ·by_cases hm : last ≤ most
      ·have ht : tryO ds F nmC most = some (last, Es) := by unfold tryO; rw [Hat.out]; dsimp only; rw [htk]; exact if_pos hm
       have hpost := hid (show RLoadIs w ds F most (.returned (.tuple #[.int .i64 last, .pointer (some ⟨p, 0, none⟩), .int .i64 0])) w3 from
        ⟨HE1.out.trans' HE2.out, .inr ⟨h0, last, p, L, S, rfl, by
         unfold loadR
         first
         | (rw [ht, hv]; done)
         | (rw [HN.out.1 (by omega), ht, hv]), hOn⟩⟩)
       clear h0 ht htk hOn hv
       go_wp2
       go_ret3
       exact hpost.out
      ·have HN2 := hid (show (1 ≤ 0 + 1 → tryO ds F nmC most = none) ∧ (2 ≤ 0 + 1 → tryO ds F nmN most = none) from by
        have ht : tryO ds F nmC most = none := by unfold tryO; rw [Hat.out]; dsimp only; rw [htk]; exact if_neg hm
        exact ⟨fun _ => ht, fun h => by omega⟩)
       clear h0 htk hOn hv
       go_wp2_with fail
       go_roundw
       case rel => exact ⟨0 + 1, by omega, by go_num, HE2, HN2⟩
       case measure => simp [intOf]
   ·obtain rfl : k = 1 := by omega
    have hcc := read_ref (HD.out.ext HE.out) nmN
    go_wp2_with fail
    refine hcc.mono ?_
    clear hcc r0 r1
    rintro e w2 ⟨v, rfl, hO, hE2⟩
    unfold readE
    unfold readB at hO
    have Hok := hid (HD.out.ok)
    cases hat : atF F nmN with
    | none =>
     have HN2 := hid (show (1 ≤ 1 + 1 → tryO ds F nmC most = none) ∧ (2 ≤ 1 + 1 → tryO ds F nmN most = none) from by
      have ht : tryO ds F nmN most = none := by unfold tryO; rw [hat]
      exact ⟨fun _ => HN.out.1 (by omega), fun _ => ht⟩)
     have HE2 := hid (HE.out.trans' hE2)
     clear hO hat hE2
     go_wp2_with fail
     go_roundw
     case rel => exact ⟨1 + 1, by omega, by go_num, HE2, HN2⟩
     case measure => simp [intOf]
    | some f =>
     rw [hat] at hO
     have hO : OB w2 wr.heap.size v f.b := hO
     have hlen := (ok_at Hok.out hat).1
     obtain ⟨Ab, nb, cb, rfl, hnb, hcb, hRb⟩ := OB.rd hO
     have HE2 := hid (HE.out.trans' hE2)
     have hcc := refTake_at ((HX.out.grow HE1.out).grow HE2.out) hnb hcb hRb (by omega)
     have Hat := hid hat
     clear hO hat hE2 hnb hlen hRb
     go_wp2_with fail
     refine hcc.mono ?_
     clear hcc
     rintro e w3 ⟨hE3, hans⟩
     have HE2 := hid (HE2.out.trans' hE3)
     clear hE3
     rcases hans with ⟨h0, rfl⟩ | ⟨h0, htk, rfl⟩ | ⟨h0, last, Es, p, L, S, htk, rfl, hOn, hv⟩
     ·exact absurd H0.out h0
     ·have HN2 := hid (show (1 ≤ 1 + 1 → tryO ds F nmC most = none) ∧ (2 ≤ 1 + 1 → tryO ds F nmN most = none) from by
       have ht : tryO ds F nmN most = none := by unfold tryO; rw [Hat.out]; dsimp only; rw [htk]
       exact ⟨fun _ => HN.out.1 (by omega), fun _ => ht⟩)
      clear htk h0
      go_wp2_with fail
      go_roundw
      case rel => exact ⟨1 + 1, by omega, by go_num, HE2, HN2⟩
      case measure => simp [intOf]
     ·by_cases hm : last ≤ most
      ·have ht : tryO ds F nmN most = some (last, Es) := by unfold tryO; rw [Hat.out]; dsimp only; rw [htk]; exact if_pos hm
       have hpost := hid (show RLoadIs w ds F most (.returned (.tuple #[.int .i64 last, .pointer (some ⟨p, 0, none⟩), .int .i64 0])) w3 from
        ⟨HE1.out.trans' HE2.out, .inr ⟨h0, last, p, L, S, rfl, by
         unfold loadR
         first
         | (rw [ht, hv]; done)
         | (rw [HN.out.1 (by omega), ht, hv]), hOn⟩⟩)
       clear h0 ht htk hOn hv
       go_wp2
       go_ret3
       exact hpost.out
      ·have HN2 := hid (show (1 ≤ 1 + 1 → tryO ds F nmC most = none) ∧ (2 ≤ 1 + 1 → tryO ds F nmN most = none) from by
        have ht : tryO ds F nmN most = none := by unfold tryO; rw [Hat.out]; dsimp only; rw [htk]; exact if_neg hm
        exact ⟨fun _ => HN.out.1 (by omega), fun _ => ht⟩)
       clear h0 htk hOn hv
       go_wp2_with fail
       go_roundw
       case rel => exact ⟨1 + 1, by omega, by go_num, HE2, HN2⟩
       case measure => simp [intOf]
def AfterR (w0 : World) (S : Nat → Prop) (y g : Nat) (q l : Int) (F : Files) (w : World) : Prop :=
 ∃ S' g', RefIs w S' y g' q l F ∧ RStep w0 w S S' y g ∧ (g' = g ∨ w0.heap.size ≤ g')
theorem AfterR.start {w : World} {S : Nat → Prop} {y g : Nat} {q l : Int} {F : Files} (h : RefIs w S y g q l F) : AfterR w S y g q l F w := ⟨S, g, h, RStep.of_ext (Below.refl _ _) h.fresh, .inl rfl⟩
theorem AfterR.next {w0 w w' : World} {S S1 : Nat → Prop} {y g g1 : Nat} {q l : Int} {F : Files} (hS : RStep w0 w S S1 y g) (hg : g1 = g ∨ w0.heap.size ≤ g1)
  (k : ∃ S' g', RefIs w' S' y g' q l F ∧ RStep w w' S1 S' y g1 ∧ (g' = g1 ∨ w.heap.size ≤ g')) : AfterR w0 S y g q l F w' := by
 obtain ⟨S', g', h1, h2, h3⟩ := k
 refine ⟨S', g', h1, hS.trans h2 hg, ?_⟩
 rcases h3 with rfl | h3
 ·exact hg
 ·exact .inr (Nat.le_trans hS.kept.size h3)
theorem RS.rstep {w w' : World} {S S' : Nat → Prop} {y g : Nat} {A : Option Addr} {bs : List UInt8} (h : RS w S A bs) (hs : RStep w w' S S' y g) (hy : S y) (hg : S g) : RS w' S' A bs :=
 (RK.ext h fun k hk => hs.kept.block k hk.1 (by rintro rfl; exact hk.2 hy) (by rintro rfl; exact hk.2 hg)).mono fun k hk => ⟨Nat.lt_of_lt_of_le hk.1 hs.kept.size, fun h' => hk.2 ((hs.same k hk.1).1 h')⟩
structure RSvEnd (w : World) (S : Nat → Prop) (y g : Nat) (q x l' : Int) (F' : Files) (e : Ending) (w' : World) : Prop where
 e : e = .returned (.int .i64 x)
 after : AfterR w S y g q l' F' w'
theorem save_on {q : Int} {b : List UInt8} {k : Nat} {l l1 : Int} {F F1 : Files} {r : Int × Int × Files} (hk : k < 5) (h : r = restS q b (5 - k) l F) (hs : stepS q b k l F = (0, l1, F1)) : r = restS q b (5 - (k + 1)) l1 F1 := by
 rw [h, restS_step q b k l F hk, hs]; rfl
theorem save_off {q : Int} {b : List UInt8} {k : Nat} {l l1 x : Int} {F F1 : Files} {r : Int × Int × Files} (hk : k < 5) (h : r = restS q b (5 - k) l F) (hs : stepS q b k l F = (x, l1, F1)) (hx : x ≠ 0) : r = (x, l1, F1) := by
 rw [h, restS_step q b k l F hk, hs]; exact if_neg hx
theorem gone_no {l : Int} {F : Files} {nm : List UInt8} (h : atF F nm = none) : goneS l F nm = (0, l, F) := by unfold goneS; exact if_pos h
theorem gone_yes {l : Int} {F : Files} {nm : List UInt8} {f : File} (h : atF F nm = some f) : goneS l F nm = (knownEF l F nm, burnL l, dropF l F nm) := by
 unfold goneS; exact if_neg (by rw [h]; simp)
end Go.Proofs.YtakebdeldndaaaaGreatDoor
/- registrarref17.Save (printed by tools/gen_rsave.py). -/
namespace Go.Proofs.YtakebdeldndaaaaGreatDoor
open Go Go.RowKit
set_option linter.unusedSimpArgs false
set_option linter.unusedVariables false
set_option maxRecDepth 100000 in
set_option maxHeartbeats 8000000 in
theorem refSave_at {w : World} {S : Nat → Prop} {y g : Nat} {q l : Int} {F : Files} (h : RefIs w S y g q l F) {A : Option Addr} {n c : Nat} {bs : List UInt8} (hnb : n = bs.length) (hn1 : n ≤ 100000) (hA : RS w S A bs) :
  Calls Tryz.prog 28 #[.pointer (some ⟨y, 0, none⟩), .slice A n c] w fun e w' => RSvEnd w S y g q (saveS q bs l F).1 (saveS q bs l F).2.1 (saveS q bs l F).2.2 e w' := by
 have HD0 := hid h; have Hnb := hid hnb; have HRS0 := hid hA
 have HA := hid (AfterR.start h)
 have HR := hid (show saveS q bs l F = restS q bs (5 - 0) l F from rfl)
 clear h hnb hA
 go_enter Tryz.func28, Tryz.ntmps28
 obtain ⟨S1, g1, hR1, hS1, hg1⟩ := HA.out
 have HD := hid hR1; have HS := hid hS1; have HG := hid hg1
 have HRS := hid (RS.rstep HRS0.out hS1 HD0.out.own HD0.out.ownG)
 clear hR1 hS1 hg1
 have hcc := read_ref HD.out nmN
 go_wp2_with fail
 refine hcc.mono ?_
 clear hcc
 rintro e v1 ⟨v, rfl, -, hE⟩
 have HA := hid (AfterR.next HS.out HG.out ⟨_, _, HD.out.ext hE, RStep.of_ext hE HD.out.fresh, .inl rfl⟩)
 clear hE HD HS HG HRS
 unfold readE
 cases hat : atF F nmN with
 | none =>
  have HR := hid (save_on (k := 0) (by decide) HR.out (show stepS q bs 0 l F = _ from gone_no hat))
  clear hat
  obtain ⟨S1, g1, hR1, hS1, hg1⟩ := HA.out
  have HD := hid hR1; have HS := hid hS1; have HG := hid hg1
  have HRS := hid (RS.rstep HRS0.out hS1 HD0.out.own HD0.out.ownG)
  clear hR1 hS1 hg1
  have hs : stepS q bs 1 l F = (appE q l F nmN bs, burnL l, appF q l F nmN bs) := rfl
  have hcc := append_ref HD.out nmN (by decide) A n c bs Hnb.out hn1 HRS.out
  generalize appE q l F nmN bs = x2 at *
  generalize appF q l F nmN bs = F2 at *
  generalize burnL l = l2 at *
  go_wp2_with fail
  refine hcc.mono ?_
  clear hcc
  rintro e w2 ⟨rfl, hR2⟩
  have HA := hid (AfterR.next HS.out HG.out hR2)
  clear hR2 HD HS HG HRS
  by_cases hx : x2 = 0
  ·subst hx
   have HR := hid (save_on (k := 1) (by decide) HR.out hs)
   clear hs
   obtain ⟨S1, g1, hR1, hS1, hg1⟩ := HA.out
   have HD := hid hR1; have HS := hid hS1; have HG := hid hg1
   have HRS := hid (RS.rstep HRS0.out hS1 HD0.out.own HD0.out.ownG)
   clear hR1 hS1 hg1
   have hs : stepS q bs 2 l2 F2 = (knownEF l2 F2 nmN, burnL l2, syncF l2 F2 nmN) := rfl
   have hcc := sync_ref HD.out nmN
   generalize knownEF l2 F2 nmN = x3 at *
   generalize syncF l2 F2 nmN = F3 at *
   generalize burnL l2 = l3 at *
   go_wp2_with fail
   refine hcc.mono ?_
   clear hcc
   rintro e w3 ⟨rfl, hR2⟩
   have HA := hid (AfterR.next HS.out HG.out hR2)
   clear hR2 HD HS HG HRS
   by_cases hx : x3 = 0
   ·subst hx
    have HR := hid (save_on (k := 2) (by decide) HR.out hs)
    clear hs
    obtain ⟨S1, g1, hR1, hS1, hg1⟩ := HA.out
    have HD := hid hR1; have HS := hid hS1; have HG := hid hg1
    have HRS := hid (RS.rstep HRS0.out hS1 HD0.out.own HD0.out.ownG)
    clear hR1 hS1 hg1
    have hcc := read_ref HD.out nmC
    go_wp2_with fail
    refine hcc.mono ?_
    clear hcc
    rintro e v4 ⟨v, rfl, -, hE⟩
    have HA := hid (AfterR.next HS.out HG.out ⟨_, _, HD.out.ext hE, RStep.of_ext hE HD.out.fresh, .inl rfl⟩)
    clear hE HD HS HG HRS
    unfold readE
    cases hat : atF F3 nmC with
    | none =>
     have HR := hid (save_on (k := 3) (by decide) HR.out (show stepS q bs 3 l3 F3 = _ from gone_no hat))
     clear hat
     obtain ⟨S1, g1, hR1, hS1, hg1⟩ := HA.out
     have HD := hid hR1; have HS := hid hS1; have HG := hid hg1
     have HRS := hid (RS.rstep HRS0.out hS1 HD0.out.own HD0.out.ownG)
     clear hR1 hS1 hg1
     have hs : stepS q bs 4 l3 F3 = (renEF l3 F3 nmN nmC, burnL l3, renF l3 F3 nmN nmC) := rfl
     have hcc := rename_ref HD.out nmN nmC (by decide)
     have hfin : saveS q bs l F = (renEF l3 F3 nmN nmC, burnL l3, renF l3 F3 nmN nmC) := by rw [HR.out, restS_step q bs 4 _ _ (by decide), hs]; split <;> simp_all [restS]
     generalize renEF l3 F3 nmN nmC = x5 at *
     generalize renF l3 F3 nmN nmC = F5 at *
     generalize burnL l3 = l5 at *
     clear hs
     go_wp2_with fail
     refine hcc.mono ?_
     clear hcc
     rintro e w5 ⟨rfl, hR2⟩
     have hpost := hid (show RSvEnd w S y g q (saveS q bs l F).1 (saveS q bs l F).2.1 (saveS q bs l F).2.2 (.returned (.int .i64 x5)) w5 from by
      rw [hfin]
      exact ⟨rfl, AfterR.next HS.out HG.out hR2⟩)
     clear hR2 hfin
     go_wp2
     go_ret
     exact hpost.out
    | some f =>
     have hs : stepS q bs 3 l3 F3 = (knownEF l3 F3 nmC, burnL l3, dropF l3 F3 nmC) := gone_yes hat
     clear hat
     obtain ⟨S1, g1, hR1, hS1, hg1⟩ := HA.out
     have HD := hid hR1; have HS := hid hS1; have HG := hid hg1
     have HRS := hid (RS.rstep HRS0.out hS1 HD0.out.own HD0.out.ownG)
     clear hR1 hS1 hg1
     have hcc := remove_ref HD.out nmC
     generalize knownEF l3 F3 nmC = x6 at *
     generalize dropF l3 F3 nmC = F6 at *
     generalize burnL l3 = l6 at *
     go_wp2_with fail
     refine hcc.mono ?_
     clear hcc
     rintro e w6 ⟨rfl, hR2⟩
     have HA := hid (AfterR.next HS.out HG.out hR2)
     clear hR2 HD HS HG HRS
     by_cases hx : x6 = 0
     ·subst hx
      have HR := hid (save_on (k := 3) (by decide) HR.out hs)
      clear hs
      obtain ⟨S1, g1, hR1, hS1, hg1⟩ := HA.out
      have HD := hid hR1; have HS := hid hS1; have HG := hid hg1
      have HRS := hid (RS.rstep HRS0.out hS1 HD0.out.own HD0.out.ownG)
      clear hR1 hS1 hg1
      have hs : stepS q bs 4 l6 F6 = (renEF l6 F6 nmN nmC, burnL l6, renF l6 F6 nmN nmC) := rfl
      have hcc := rename_ref HD.out nmN nmC (by decide)
      have hfin : saveS q bs l F = (renEF l6 F6 nmN nmC, burnL l6, renF l6 F6 nmN nmC) := by rw [HR.out, restS_step q bs 4 _ _ (by decide), hs]; split <;> simp_all [restS]
      generalize renEF l6 F6 nmN nmC = x7 at *
      generalize renF l6 F6 nmN nmC = F7 at *
      generalize burnL l6 = l7 at *
      clear hs
      go_wp2_with fail
      refine hcc.mono ?_
      clear hcc
      rintro e w7 ⟨rfl, hR2⟩
      have hpost := hid (show RSvEnd w S y g q (saveS q bs l F).1 (saveS q bs l F).2.1 (saveS q bs l F).2.2 (.returned (.int .i64 x7)) w7 from by
       rw [hfin]
       exact ⟨rfl, AfterR.next HS.out HG.out hR2⟩)
      clear hR2 hfin
      go_wp2
      go_ret
      exact hpost.out
     ·have hfin := save_off (k := 3) (by decide) HR.out hs hx
      have hpost := hid (show RSvEnd w S y g q (saveS q bs l F).1 (saveS q bs l F).2.1 (saveS q bs l F).2.2 (.returned (.int .i64 x6)) w6 from by
       rw [hfin]
       exact ⟨rfl, HA.out⟩)
      have hx1 : (x6 != 0) = true := by simpa using hx
      have hx2 : (x6 == 0) = false := by simpa using hx
      clear hfin hx hs
      go_wp2
      go_ret
      exact hpost.out
   ·have hfin := save_off (k := 2) (by decide) HR.out hs hx
    have hpost := hid (show RSvEnd w S y g q (saveS q bs l F).1 (saveS q bs l F).2.1 (saveS q bs l F).2.2 (.returned (.int .i64 x3)) w3 from by
     rw [hfin]
     exact ⟨rfl, HA.out⟩)
    have hx1 : (x3 != 0) = true := by simpa using hx
    have hx2 : (x3 == 0) = false := by simpa using hx
    clear hfin hx hs
    go_wp2
    go_ret
    exact hpost.out
  ·have hfin := save_off (k := 1) (by decide) HR.out hs hx
   have hpost := hid (show RSvEnd w S y g q (saveS q bs l F).1 (saveS q bs l F).2.1 (saveS q bs l F).2.2 (.returned (.int .i64 x2)) w2 from by
    rw [hfin]
    exact ⟨rfl, HA.out⟩)
   have hx1 : (x2 != 0) = true := by simpa using hx
   have hx2 : (x2 == 0) = false := by simpa using hx
   clear hfin hx hs
   go_wp2
   go_ret
   exact hpost.out
 | some f =>
  have hs : stepS q bs 0 l F = (knownEF l F nmN, burnL l, dropF l F nmN) := gone_yes hat
  clear hat
  obtain ⟨S1, g1, hR1, hS1, hg1⟩ := HA.out
  have HD := hid hR1; have HS := hid hS1; have HG := hid hg1
  have HRS := hid (RS.rstep HRS0.out hS1 HD0.out.own HD0.out.ownG)
  clear hR1 hS1 hg1
  have hcc := remove_ref HD.out nmN
  generalize knownEF l F nmN = x8 at *
  generalize dropF l F nmN = F8 at *
  generalize burnL l = l8 at *
  go_wp2_with fail
  refine hcc.mono ?_
  clear hcc
  rintro e w8 ⟨rfl, hR2⟩
  have HA := hid (AfterR.next HS.out HG.out hR2)
  clear hR2 HD HS HG HRS
  by_cases hx : x8 = 0
  ·subst hx
   have HR := hid (save_on (k := 0) (by decide) HR.out hs)
   clear hs
   obtain ⟨S1, g1, hR1, hS1, hg1⟩ := HA.out
   have HD := hid hR1; have HS := hid hS1; have HG := hid hg1
   have HRS := hid (RS.rstep HRS0.out hS1 HD0.out.own HD0.out.ownG)
   clear hR1 hS1 hg1
   have hs : stepS q bs 1 l8 F8 = (appE q l8 F8 nmN bs, burnL l8, appF q l8 F8 nmN bs) := rfl
   have hcc := append_ref HD.out nmN (by decide) A n c bs Hnb.out hn1 HRS.out
   generalize appE q l8 F8 nmN bs = x9 at *
   generalize appF q l8 F8 nmN bs = F9 at *
   generalize burnL l8 = l9 at *
   go_wp2_with fail
   refine hcc.mono ?_
   clear hcc
   rintro e w9 ⟨rfl, hR2⟩
   have HA := hid (AfterR.next HS.out HG.out hR2)
   clear hR2 HD HS HG HRS
   by_cases hx : x9 = 0
   ·subst hx
    have HR := hid (save_on (k := 1) (by decide) HR.out hs)
    clear hs
    obtain ⟨S1, g1, hR1, hS1, hg1⟩ := HA.out
    have HD := hid hR1; have HS := hid hS1; have HG := hid hg1
    have HRS := hid (RS.rstep HRS0.out hS1 HD0.out.own HD0.out.ownG)
    clear hR1 hS1 hg1
    have hs : stepS q bs 2 l9 F9 = (knownEF l9 F9 nmN, burnL l9, syncF l9 F9 nmN) := rfl
    have hcc := sync_ref HD.out nmN
    generalize knownEF l9 F9 nmN = x10 at *
    generalize syncF l9 F9 nmN = F10 at *
    generalize burnL l9 = l10 at *
    go_wp2_with fail
    refine hcc.mono ?_
    clear hcc
    rintro e w10 ⟨rfl, hR2⟩
    have HA := hid (AfterR.next HS.out HG.out hR2)
    clear hR2 HD HS HG HRS
    by_cases hx : x10 = 0
    ·subst hx
     have HR := hid (save_on (k := 2) (by decide) HR.out hs)
     clear hs
     obtain ⟨S1, g1, hR1, hS1, hg1⟩ := HA.out
     have HD := hid hR1; have HS := hid hS1; have HG := hid hg1
     have HRS := hid (RS.rstep HRS0.out hS1 HD0.out.own HD0.out.ownG)
     clear hR1 hS1 hg1
     have hcc := read_ref HD.out nmC
     go_wp2_with fail
     refine hcc.mono ?_
     clear hcc
     rintro e v11 ⟨v, rfl, -, hE⟩
     have HA := hid (AfterR.next HS.out HG.out ⟨_, _, HD.out.ext hE, RStep.of_ext hE HD.out.fresh, .inl rfl⟩)
     clear hE HD HS HG HRS
     unfold readE
     cases hat : atF F10 nmC with
     | none =>
      have HR := hid (save_on (k := 3) (by decide) HR.out (show stepS q bs 3 l10 F10 = _ from gone_no hat))
      clear hat
      obtain ⟨S1, g1, hR1, hS1, hg1⟩ := HA.out
      have HD := hid hR1; have HS := hid hS1; have HG := hid hg1
      have HRS := hid (RS.rstep HRS0.out hS1 HD0.out.own HD0.out.ownG)
      clear hR1 hS1 hg1
      have hs : stepS q bs 4 l10 F10 = (renEF l10 F10 nmN nmC, burnL l10, renF l10 F10 nmN nmC) := rfl
      have hcc := rename_ref HD.out nmN nmC (by decide)
      have hfin : saveS q bs l F = (renEF l10 F10 nmN nmC, burnL l10, renF l10 F10 nmN nmC) := by rw [HR.out, restS_step q bs 4 _ _ (by decide), hs]; split <;> simp_all [restS]
      generalize renEF l10 F10 nmN nmC = x12 at *
      generalize renF l10 F10 nmN nmC = F12 at *
      generalize burnL l10 = l12 at *
      clear hs
      go_wp2_with fail
      refine hcc.mono ?_
      clear hcc
      rintro e w12 ⟨rfl, hR2⟩
      have hpost := hid (show RSvEnd w S y g q (saveS q bs l F).1 (saveS q bs l F).2.1 (saveS q bs l F).2.2 (.returned (.int .i64 x12)) w12 from by
       rw [hfin]
       exact ⟨rfl, AfterR.next HS.out HG.out hR2⟩)
      clear hR2 hfin
      go_wp2
      go_ret
      exact hpost.out
     | some f =>
      have hs : stepS q bs 3 l10 F10 = (knownEF l10 F10 nmC, burnL l10, dropF l10 F10 nmC) := gone_yes hat
      clear hat
      obtain ⟨S1, g1, hR1, hS1, hg1⟩ := HA.out
      have HD := hid hR1; have HS := hid hS1; have HG := hid hg1
      have HRS := hid (RS.rstep HRS0.out hS1 HD0.out.own HD0.out.ownG)
      clear hR1 hS1 hg1
      have hcc := remove_ref HD.out nmC
      generalize knownEF l10 F10 nmC = x13 at *
      generalize dropF l10 F10 nmC = F13 at *
      generalize burnL l10 = l13 at *
      go_wp2_with fail
      refine hcc.mono ?_
      clear hcc
      rintro e w13 ⟨rfl, hR2⟩
      have HA := hid (AfterR.next HS.out HG.out hR2)
      clear hR2 HD HS HG HRS
      by_cases hx : x13 = 0
      ·subst hx
       have HR := hid (save_on (k := 3) (by decide) HR.out hs)
       clear hs
       obtain ⟨S1, g1, hR1, hS1, hg1⟩ := HA.out
       have HD := hid hR1; have HS := hid hS1; have HG := hid hg1
       have HRS := hid (RS.rstep HRS0.out hS1 HD0.out.own HD0.out.ownG)
       clear hR1 hS1 hg1
       have hs : stepS q bs 4 l13 F13 = (renEF l13 F13 nmN nmC, burnL l13, renF l13 F13 nmN nmC) := rfl
       have hcc := rename_ref HD.out nmN nmC (by decide)
       have hfin : saveS q bs l F = (renEF l13 F13 nmN nmC, burnL l13, renF l13 F13 nmN nmC) := by rw [HR.out, restS_step q bs 4 _ _ (by decide), hs]; split <;> simp_all [restS]
       generalize renEF l13 F13 nmN nmC = x14 at *
       generalize renF l13 F13 nmN nmC = F14 at *
       generalize burnL l13 = l14 at *
       clear hs
       go_wp2_with fail
       refine hcc.mono ?_
       clear hcc
       rintro e w14 ⟨rfl, hR2⟩
       have hpost := hid (show RSvEnd w S y g q (saveS q bs l F).1 (saveS q bs l F).2.1 (saveS q bs l F).2.2 (.returned (.int .i64 x14)) w14 from by
        rw [hfin]
        exact ⟨rfl, AfterR.next HS.out HG.out hR2⟩)
       clear hR2 hfin
       go_wp2
       go_ret
       exact hpost.out
      ·have hfin := save_off (k := 3) (by decide) HR.out hs hx
       have hpost := hid (show RSvEnd w S y g q (saveS q bs l F).1 (saveS q bs l F).2.1 (saveS q bs l F).2.2 (.returned (.int .i64 x13)) w13 from by
        rw [hfin]
        exact ⟨rfl, HA.out⟩)
       have hx1 : (x13 != 0) = true := by simpa using hx
       have hx2 : (x13 == 0) = false := by simpa using hx
       clear hfin hx hs
       go_wp2
       go_ret
       exact hpost.out
    ·have hfin := save_off (k := 2) (by decide) HR.out hs hx
     have hpost := hid (show RSvEnd w S y g q (saveS q bs l F).1 (saveS q bs l F).2.1 (saveS q bs l F).2.2 (.returned (.int .i64 x10)) w10 from by
      rw [hfin]
      exact ⟨rfl, HA.out⟩)
     have hx1 : (x10 != 0) = true := by simpa using hx
     have hx2 : (x10 == 0) = false := by simpa using hx
     clear hfin hx hs
     go_wp2
     go_ret
     exact hpost.out
   ·have hfin := save_off (k := 1) (by decide) HR.out hs hx
    have hpost := hid (show RSvEnd w S y g q (saveS q bs l F).1 (saveS q bs l F).2.1 (saveS q bs l F).2.2 (.returned (.int .i64 x9)) w9 from by
     rw [hfin]
     exact ⟨rfl, HA.out⟩)
    have hx1 : (x9 != 0) = true := by simpa using hx
    have hx2 : (x9 == 0) = false := by simpa using hx
    clear hfin hx hs
    go_wp2
    go_ret
    exact hpost.out
  ·have hfin := save_off (k := 0) (by decide) HR.out hs hx
   have hpost := hid (show RSvEnd w S y g q (saveS q bs l F).1 (saveS q bs l F).2.1 (saveS q bs l F).2.2 (.returned (.int .i64 x8)) w8 from by
    rw [hfin]
    exact ⟨rfl, HA.out⟩)
   have hx1 : (x8 != 0) = true := by simpa using hx
   have hx2 : (x8 == 0) = false := by simpa using hx
   clear hfin hx hs
   go_wp2
   go_ret
   exact hpost.out
end Go.Proofs.YtakebdeldndaaaaGreatDoor
/- registrarref17.Clean. -/
namespace Go.Proofs.YtakebdeldndaaaaGreatDoor
open Go Go.RowKit
set_option linter.unusedSimpArgs false
set_option linter.unusedVariables false
end Go.Proofs.YtakebdeldndaaaaGreatDoor
