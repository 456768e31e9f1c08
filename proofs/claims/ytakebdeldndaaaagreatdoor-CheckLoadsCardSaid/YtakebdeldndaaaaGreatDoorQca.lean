/- Several texts of this claim's, one behind the other. -/
import Derived.Test.YtakebdeldndaaaaGreatDoorQB0
/- qcode's lists: how long they may be. -/
namespace Go.Proofs.YtakebdeldndaaaaGreatDoor
open Go Go.RowKit
set_option linter.unusedSimpArgs false
set_option linter.unusedVariables false
theorem enters_PutText : Enters 70 := enters_of Tryz.func70 (by kernel_rfl) rfl
set_option maxRecDepth 100000 in
set_option maxHeartbeats 2000000 in
theorem listTxt_at {w : World} {A : Option Addr} {n c : Nat} {bs : List UInt8} (hn : n = bs.length) (hc : n ≤ c) (hr : RB w A bs) (hlen : n ≤ 1000000) {B : Option Addr} {m d : Nat} {xs : List Str} (hx : SlR Rep.txt w (· < w.heap.size) B m d xs) (hm : m ≤ 4) (hxs : ∀ t ∈ xs, t.length ≤ 1000) :
  Calls Tryz.prog 128 #[.slice A n c, .slice B m d, .func (.func 70) #[] #[]] w fun e w' => ∃ v, e = .returned v ∧ OB w' w.heap.size v (bs ++ lsB xs) ∧ Ext w w' := by
 have hcc := numPut_at hn hc hr (by omega) (m : Int) (by unfold I64; omega)
 have hel := encB_len (x := (m : Int)) (by omega)
 have hmx := hid hx.1
 have hmd := hx.2.1
 have hdm := hx.2.2.1
 have HX := hid hx
 have HXs := hid hxs
 have hbl : bs.length = n := hn.symm
 have Hbl := hid hbl
 clear hr hn hx hxs hbl
 have hg' : ∀ args w, (callFunc 70 args).run Tryz.prog w = .ok (.enter 70 args) w := enters_PutText
 go_enter Tryz.func128, Tryz.ntmps128
 go_wp2_with fail
 refine hcc.mono ?_
 clear hcc
 rintro e w1 ⟨v, rfl, hO, hE⟩
 have HO := hid (show OB w1 w.heap.size v (bs ++ encB (m : Int) ++ (xs.take 0).flatMap encT) by simpa using hO); have HE := hid hE
 clear hO hE hel
 go_wp2_with fail
 go_loopw [7, 16] (fun u i wr => ∃ k : Nat, k ≤ m ∧ i = .int .i64 (k : Int) ∧ Hid (OB wr w.heap.size u (bs ++ encB (m : Int) ++ (xs.take k).flatMap encT)) ∧ Hid (Ext w wr)) (fun _ i _ => m - (intOf i).toNat)
 case atStart => exact ⟨0, by omega, rfl, HO, HE⟩
 case round =>
  obtain ⟨k, hk, rfl, HO, HE⟩ := hrel
  by_cases hlt : k < m
  ·have hkx : k < xs.length := by have := hmx.out; omega
   have hlt' : (k : Int) < (m : Int) := by omega
   have hk00 : ¬ ((k : Int) < 0) := by omega
   have hk0 : (0 : Int) ≤ (k : Int) := by omega
   obtain ⟨b, o, rfl, -, f0, -⟩ := txt_at (HX.out.grow HE.out) k hkx
   have ht := HXs.out _ (List.getElem_mem hkx)
   have hfl := flat_take (f := encT) (N := 1010) (xs := xs) (fun x hx => encT_small (HXs.out x hx)) k
   have hel := encB_len (x := (m : Int)) (by omega)
   have Hnx := hid (flat_next encT hkx)
   obtain ⟨A', n', c', rfl, hn', hc', hR'⟩ := OB.rd HO.out
   have hln : n' ≤ 1000000 + 10 + 1010 * 4 := by rw [hn', List.length_append, List.length_append, Hbl.out]; omega
   generalize xs[k] = t at *
   have hcc := numPutText_at hn' hc' hR' (by omega) t (by omega)
   clear hR' hn' hel hfl
   go_wp2_with fail
   refine hcc.mono ?_
   clear hcc
   rintro e w2 ⟨v, rfl, hO, hE⟩
   have HO2 := hid (show OB w2 w.heap.size v (bs ++ encB (m : Int) ++ (xs.take (k + 1)).flatMap encT) from by rw [Hnx.out, ← List.append_assoc]; exact OB.base hO HE.out.size); have HE2 := hid (HE.out.trans' hE)
   clear hO hE
   go_wp2_with fail
   go_roundw
   case rel => exact ⟨k + 1, by omega, by go_num, HO2, HE2⟩
   case measure => simp [intOf]; omega
  ·obtain rfl : k = m := by omega
   have hlt' : ¬ ((k : Int) < (k : Int)) := by omega
   have HF := hid (show OB wr w.heap.size u7 (bs ++ lsB xs) from by
    have := HO.out
    rw [List.take_of_length_le (by have := hmx.out; omega), List.append_assoc, hmx.out] at this
    exact this)
   go_wp2
   go_ret
   exact ⟨_, rfl, HF.out, HE.out⟩
end Go.Proofs.YtakebdeldndaaaaGreatDoor
/- qcode's lists of clauses. -/
namespace Go.Proofs.YtakebdeldndaaaaGreatDoor
open Go Go.RowKit
set_option linter.unusedSimpArgs false
set_option linter.unusedVariables false
theorem enters_put1 : Enters 127 := enters_of Tryz.func127 (by kernel_rfl) rfl
set_option maxRecDepth 100000 in
set_option maxHeartbeats 2000000 in
theorem putCl_at {w : World} {A : Option Addr} {n c : Nat} {bs : List UInt8} (hn : n = bs.length) (hc : n ≤ c) (hr : RB w A bs) (hlen : n ≤ 900000) {T U : Option Addr} {tl ta ul ua : Nat} {x : ClV} (hT : SlR Rep.txt w (· < w.heap.size) T tl ta x.tags) (hU : SlR Rep.txt w (· < w.heap.size) U ul ua x.types) (hx : FitC x) :
  Calls Tryz.prog 127 #[.slice A n c, .agg #[.slice T tl ta, .slice U ul ua]] w fun e w' => ∃ v, e = .returned v ∧ OB w' w.heap.size v (bs ++ clB x) ∧ Ext w w' := by
 have HE0 := hid (ext_alloc w (.cells #[.slice T tl ta, .slice U ul ua] 67))
 have HX := hid (show ClBox w.heap.size T tl ta U ul ua (w.alloc (.cells #[.slice T tl ta, .slice U ul ua] 67)) from heap_alloc_last _ _)
 have HT := hid (hT.grow HE0.out); have HU := hid (hU.grow HE0.out)
 have HR := hid (RB.below hr HE0.out)
 have hfx := hx.few
 have h1 : x.tags.length = tl := hT.1.symm ▸ rfl
 have h2 : x.types.length = ul := hU.1.symm ▸ rfl
 have Htl := hid (show tl ≤ 4 by omega); have Hul := hid (show ul ≤ 4 by omega)
 have Hn := hid hn
 clear hT hU hr h1 h2 hfx hn
 go_enter Tryz.func127, Tryz.ntmps127
 go_wp2_with fail
 obtain ⟨n0, hn0⟩ : ∃ n0, n0 = w.heap.size := ⟨_, rfl⟩
 have Hn0 := hid hn0
 rw [← hn0] at HX ⊢
 clear hn0
 generalize w.alloc (.cells #[.slice T tl ta, .slice U ul ua] 67) = w1 at *
 apply wp_drawn [isV _, isV _, isV _, obX n0 (bs ++ lsB x.tags), isV _, isV _, obX n0 (bs ++ clB x), obX n0 (bs ++ clB x)] (by kernel_rfl)
 ·kernel_rfl
 ·refine ⟨?p1s0, ?p1s1, ?p1s2, ?p1s3, ?p1s4, ?p1s5, ?p1s6, ?p1s7, trivial⟩
  case p1s0 | p1s1 =>
   intro v W hE hd; simp only [Region.wanted, ↓reduceIte]; (try simp [deps, waitsOn, Region.binds, knowing, isV, ownsV, anyV] at hd); simp only [putAll, List.take_succ_cons, List.take_zero, List.drop_succ_cons, List.drop_zero, Act.put, List.setIfInBounds_toArray, List.set_cons_zero, List.set_cons_succ, Nat.zero_add, Nat.reduceAdd]; go_simp; exact ⟨Below.refl _ _, rfl⟩
  case p1s2 =>
   intro v W hE hd; simp only [Region.wanted, ↓reduceIte]; (try simp [deps, waitsOn, Region.binds, knowing, isV, ownsV, anyV] at hd); simp only [putAll, List.take_succ_cons, List.take_zero, List.drop_succ_cons, List.drop_zero, Act.put, List.setIfInBounds_toArray, List.set_cons_zero, List.set_cons_succ, Nat.zero_add, Nat.reduceAdd]
   obtain ⟨x0, x1⟩ := (HX.out.ext hE).cells
   go_simp
   exact ⟨Below.refl _ _, rfl⟩
  case p1s3 =>
   intro v W hE hd; simp only [Region.wanted, ↓reduceIte]; (try simp [deps, waitsOn, Region.binds, knowing, isV, ownsV, anyV] at hd); simp only [putAll, List.take_succ_cons, List.take_zero, List.drop_succ_cons, List.drop_zero, Act.put, List.setIfInBounds_toArray, List.set_cons_zero, List.set_cons_succ, Nat.zero_add, Nat.reduceAdd]
   go_simp
   have hcc := listTxt_at Hn.out hc (RB.below HR.out hE) (by omega) (HT.out.grow hE) Htl.out hx.tags
   refine hcc.mono ?_
   clear hcc
   rintro e w' ⟨v', rfl, hO, hE2⟩
   have HO := hid hO; have HE2 := hid hE2
   clear hO hE2
   go_simp
   exact ⟨HE2.out, OB.base HO.out (by have := hE.size; have := HE0.out.size; have := Hn0.out; omega)⟩
  case p1s4 =>
   intro v W hE hd; simp only [Region.wanted, ↓reduceIte]; (try simp [deps, waitsOn, Region.binds, knowing, isV, ownsV, anyV] at hd); simp only [putAll, List.take_succ_cons, List.take_zero, List.drop_succ_cons, List.drop_zero, Act.put, List.setIfInBounds_toArray, List.set_cons_zero, List.set_cons_succ, Nat.zero_add, Nat.reduceAdd]; go_simp; exact ⟨Below.refl _ _, rfl⟩
  case p1s5 =>
   intro v W hE hd; simp only [Region.wanted, ↓reduceIte]; (try simp [deps, waitsOn, Region.binds, knowing, isV, ownsV, anyV] at hd); simp only [putAll, List.take_succ_cons, List.take_zero, List.drop_succ_cons, List.drop_zero, Act.put, List.setIfInBounds_toArray, List.set_cons_zero, List.set_cons_succ, Nat.zero_add, Nat.reduceAdd]
   obtain ⟨x0, x1⟩ := (HX.out.ext hE).cells
   go_simp
   exact ⟨Below.refl _ _, rfl⟩
  case p1s6 =>
   intro v W hE hd; simp only [Region.wanted, ↓reduceIte]; (try simp [deps, waitsOn, Region.binds, knowing, isV, ownsV, anyV] at hd); simp only [putAll, List.take_succ_cons, List.take_zero, List.drop_succ_cons, List.drop_zero, Act.put, List.setIfInBounds_toArray, List.set_cons_zero, List.set_cons_succ, Nat.zero_add, Nat.reduceAdd]
   obtain ⟨h3, h5, -⟩ := hd
   obtain ⟨A', n', c', h3e, hn', hc', hR'⟩ := OB.rd (show OB W n0 (v 3) (bs ++ lsB x.tags) from h3)
   rw [h3e, h5]
   have hl3 := lsB_len hx.few.1 (Nat.le_refl 4) hx.tags
   have hl4 : n' ≤ 1000000 := by rw [hn', List.length_append, ← Hn.out]; omega
   have hcc := listTxt_at hn' hc' hR' hl4 (HU.out.grow hE) Hul.out hx.types
   rw [List.append_assoc] at hcc
   clear hl3 hl4
   clear hR' hn' h3
   go_simp
   refine hcc.mono ?_
   clear hcc
   rintro e w' ⟨v', rfl, hO, hE2⟩
   have HO := hid hO; have HE2 := hid hE2
   clear hO hE2
   go_simp
   exact ⟨HE2.out, OB.base HO.out (by have := hE.size; have := HE0.out.size; have := Hn0.out; omega)⟩
  case p1s7 =>
   intro v W hE hd; simp only [Region.wanted, ↓reduceIte]; (try simp [deps, waitsOn, Region.binds, knowing, isV, ownsV, anyV] at hd); simp only [putAll, List.take_succ_cons, List.take_zero, List.drop_succ_cons, List.drop_zero, Act.put, List.setIfInBounds_toArray, List.set_cons_zero, List.set_cons_succ, Nat.zero_add, Nat.reduceAdd]
   go_simp
   exact ⟨Below.refl _ _, (show OB W n0 (v 6) (bs ++ clB x) from by first | exact hd | exact hd.1)⟩
 ·rintro v W9 hE ⟨-, -, -, -, -, -, -, e7, -⟩
  have e7 := (show _ from e7)
  simp only [putAll, List.take_succ_cons, List.take_zero, List.drop_succ_cons, List.drop_zero, Act.put, List.setIfInBounds_toArray, List.set_cons_zero, List.set_cons_succ, Nat.zero_add, Nat.reduceAdd]
  have HO := hid (show OB W9 n0 (v 7) (bs ++ clB x) from e7)
  have HEf := hid (HE0.out.trans' hE)
  clear e7 hE
  go_wp2
  go_ret
  exact ⟨_, rfl, by rw [← Hn0.out]; exact HO.out, HEf.out⟩
end Go.Proofs.YtakebdeldndaaaaGreatDoor
