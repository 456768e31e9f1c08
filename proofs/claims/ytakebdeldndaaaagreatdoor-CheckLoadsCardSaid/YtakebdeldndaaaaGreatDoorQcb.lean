/- Several texts of this claim's, one behind the other. -/
import Derived.Test.YtakebdeldndaaaaGreatDoorQca
/- qcode's lists of definitions. -/
namespace Go.Proofs.YtakebdeldndaaaaGreatDoor
open Go Go.RowKit
set_option linter.unusedSimpArgs false
set_option linter.unusedVariables false
theorem enters_defs1 : Enters 85 := enters_of Tryz.func85 (by kernel_rfl) rfl
set_option maxRecDepth 100000 in
set_option maxHeartbeats 2000000 in
theorem listCl_at {w : World} {A : Option Addr} {n c : Nat} {bs : List UInt8} (hn : n = bs.length) (hc : n ≤ c) (hr : RB w A bs) (hlen : n ≤ 800000) {B : Option Addr} {m d : Nat} {xs : List ClV} (hx : SlR RCl w (· < w.heap.size) B m d xs) (hm : m ≤ 4) (hxs : ∀ t ∈ xs, FitC t) :
  Calls Tryz.prog 126 #[.slice A n c, .slice B m d, .func (.func 127) #[] #[]] w fun e w' => ∃ v, e = .returned v ∧ OB w' w.heap.size v (bs ++ qB xs) ∧ Ext w w' := by
 have hcc := numPut_at hn hc hr (by omega) (m : Int) (by unfold I64; omega)
 have hel := encB_len (x := (m : Int)) (by omega)
 have hmx := hid hx.1
 have hmd := hx.2.1
 have hdm := hx.2.2.1
 have HX := hid hx
 have HXs := hid hxs
 have hbl : bs.length = n := hn.symm
 have Hbl := hid hbl
 clear hr hn hx hxs hbl
 have hg' : ∀ args w, (callFunc 127 args).run Tryz.prog w = .ok (.enter 127 args) w := enters_put1
 go_enter Tryz.func126, Tryz.ntmps126
 go_wp2_with fail
 refine hcc.mono ?_
 clear hcc
 rintro e w1 ⟨v, rfl, hO, hE⟩
 have HO := hid (show OB w1 w.heap.size v (bs ++ encB (m : Int) ++ (xs.take 0).flatMap clB) by simpa using hO); have HE := hid hE
 clear hO hE hel
 go_wp2_with fail
 go_loopw [7, 16] (fun u i wr => ∃ k : Nat, k ≤ m ∧ i = .int .i64 (k : Int) ∧ Hid (OB wr w.heap.size u (bs ++ encB (m : Int) ++ (xs.take k).flatMap clB)) ∧ Hid (Ext w wr)) (fun _ i _ => m - (intOf i).toNat)
 case atStart => exact ⟨0, by omega, rfl, HO, HE⟩
 case round =>
  obtain ⟨k, hk, rfl, HO, HE⟩ := hrel
  by_cases hlt : k < m
  ·have hkx : k < xs.length := by have := hmx.out; omega
   have hlt' : (k : Int) < (m : Int) := by omega
   have hk00 : ¬ ((k : Int) < 0) := by omega
   have hk0 : (0 : Int) ≤ (k : Int) := by omega
   obtain ⟨b, o, T, ta, U, ua, rfl, -, f0, f1, hT, hU⟩ := cl_at (HX.out.grow HE.out) k hkx
   have ht := HXs.out _ (List.getElem_mem hkx)
   have hfl := flat_take (f := clB) (N := 8100) (xs := xs) (fun x hx => clB_len (HXs.out x hx)) k
   have hel := encB_len (x := (m : Int)) (by omega)
   have Hnx := hid (flat_next clB hkx)
   obtain ⟨A', n', c', rfl, hn', hc', hR'⟩ := OB.rd HO.out
   have hln : n' ≤ 800000 + 10 + 8100 * 4 := by rw [hn', List.length_append, List.length_append, Hbl.out]; omega
   clear hfl hel
   generalize xs[k] = t at *
   generalize t.tags.length = tl at *
   generalize t.types.length = ul at *
   have hE1 := ext_alloc wr (.cells #[.slice T tl ta, .slice U ul ua] 67)
   have hcc := putCl_at hn' hc' (RB.below hR' hE1) (by omega) (hT.grow hE1) (hU.grow hE1) ht
   have HE1 := hid (HE.out.trans' hE1)
   clear hR' hn' hE1 hT hU
   go_wp2_with fail
   refine hcc.mono ?_
   clear hcc
   rintro e w2 ⟨v, rfl, hO, hE⟩
   have HO2 := hid (show OB w2 w.heap.size v (bs ++ encB (m : Int) ++ (xs.take (k + 1)).flatMap clB) from by rw [Hnx.out, ← List.append_assoc]; exact OB.base hO HE1.out.size); have HE2 := hid (HE1.out.trans' hE)
   clear hO hE
   go_wp2_with fail
   go_roundw
   case rel => exact ⟨k + 1, by omega, by go_num, HO2, HE2⟩
   case measure => simp [intOf]; omega
  ·obtain rfl : k = m := by omega
   have hlt' : ¬ ((k : Int) < (k : Int)) := by omega
   have HF := hid (show OB wr w.heap.size u7 (bs ++ qB xs) from by
    have := HO.out
    rw [List.take_of_length_le (by have := hmx.out; omega), List.append_assoc, hmx.out] at this
    exact this)
   go_wp2
   go_ret
   exact ⟨_, rfl, HF.out, HE.out⟩
set_option maxRecDepth 100000 in
set_option maxHeartbeats 2000000 in
theorem putQ_at {w : World} {A : Option Addr} {n c : Nat} {bs : List UInt8} (hn : n = bs.length) (hc : n ≤ c) (hr : RB w A bs) (hlen : n ≤ 700000) {B : Option Addr} {m d : Nat} {q : List ClV} (hx : SlR RCl w (· < w.heap.size) B m d q) (hq : mayQ q = 0) :
  Calls Tryz.prog 86 #[.slice A n c, .agg #[.slice B m d]] w fun e w' => ∃ v, e = .returned v ∧ OB w' w.heap.size v (bs ++ qB q) ∧ Ext w w' := by
 obtain ⟨h4, hfc⟩ := fitC_may hq
 have hm4 : m ≤ 4 := by have := hx.1; omega
 have hE1 := ext_alloc w (.cells #[.slice B m d] 70)
 have hcc := listCl_at hn hc (RB.below hr hE1) (by omega) (hx.grow hE1) hm4 hfc
 have HE1 := hid hE1
 clear hr hn hx hE1 hfc h4
 go_enter Tryz.func86, Tryz.ntmps86
 go_wp2_with fail
 refine hcc.mono ?_
 clear hcc
 rintro e w1 ⟨v, rfl, hO, hE⟩
 have HO := hid (OB.base hO HE1.out.size); have HE := hid (HE1.out.trans' hE)
 clear hO hE
 go_wp2
 go_ret
 exact ⟨_, rfl, HO.out, HE.out⟩
end Go.Proofs.YtakebdeldndaaaaGreatDoor
/- qcode.PutDefs. -/
namespace Go.Proofs.YtakebdeldndaaaaGreatDoor
open Go Go.RowKit
set_option linter.unusedSimpArgs false
set_option linter.unusedVariables false
set_option maxRecDepth 100000 in
set_option maxHeartbeats 2000000 in
theorem putDef_at {w : World} {A : Option Addr} {n c : Nat} {bs : List UInt8} (hn : n = bs.length) (hc : n ≤ c) (hr : RB w A bs) (hlen : n ≤ 600000) {B : Option Addr} {m k : Nat} {d : DefV} (hq : SlR RCl w (· < w.heap.size) B m k d.q) (hd : FitD d) :
  Calls Tryz.prog 85 #[.slice A n c, .agg #[.int .i64 d.kind, .string (str d.field), .slice B m k]] w fun e w' => ∃ v, e = .returned v ∧ OB w' w.heap.size v (bs ++ dfB d) ∧ Ext w w' := by
 have HE0 := hid (ext_alloc w (.cells #[.int .i64 d.kind, .string (str d.field), .slice B m k] 72))
 have HX := hid (show DefBox w.heap.size d B m k (w.alloc (.cells #[.int .i64 d.kind, .string (str d.field), .slice B m k] 72)) from heap_alloc_last _ _)
 have HQ := hid (hq.grow HE0.out)
 have HR := hid (RB.below hr HE0.out)
 have Hd := hid hd
 have Hn := hid hn
 clear hq hr hd hn
 go_enter Tryz.func85, Tryz.ntmps85
 go_wp2_with fail
 obtain ⟨n0, hn0⟩ : ∃ n0, n0 = w.heap.size := ⟨_, rfl⟩
 have Hn0 := hid hn0
 rw [← hn0] at HX ⊢
 clear hn0
 generalize w.alloc (.cells #[.int .i64 d.kind, .string (str d.field), .slice B m k] 72) = w1 at *
 apply wp_drawn [isV _, isV _, isV _, obX n0 (bs ++ encB d.kind), isV _, isV _, obX n0 (bs ++ (encB d.kind ++ encT d.field)), isV _, isV _, obX n0 (bs ++ dfB d), obX n0 (bs ++ dfB d)] (by kernel_rfl)
 ·kernel_rfl
 ·refine ⟨?p1s0, ?p1s1, ?p1s2, ?p1s3, ?p1s4, ?p1s5, ?p1s6, ?p1s7, ?p1s8, ?p1s9, ?p1s10, trivial⟩
  case p1s0 | p1s1 =>
   intro v W hE hd; simp only [Region.wanted, ↓reduceIte]; (try simp [deps, waitsOn, Region.binds, knowing, isV, ownsV, anyV] at hd); simp only [putAll, List.take_succ_cons, List.take_zero, List.drop_succ_cons, List.drop_zero, Act.put, List.setIfInBounds_toArray, List.set_cons_zero, List.set_cons_succ, Nat.zero_add, Nat.reduceAdd]; go_simp; exact ⟨Below.refl _ _, rfl⟩
  case p1s2 =>
   intro v W hE hd; simp only [Region.wanted, ↓reduceIte]; (try simp [deps, waitsOn, Region.binds, knowing, isV, ownsV, anyV] at hd); simp only [putAll, List.take_succ_cons, List.take_zero, List.drop_succ_cons, List.drop_zero, Act.put, List.setIfInBounds_toArray, List.set_cons_zero, List.set_cons_succ, Nat.zero_add, Nat.reduceAdd]
   obtain ⟨x0, x1, x2⟩ := (HX.out.ext hE).cells
   go_simp
   exact ⟨Below.refl _ _, rfl⟩
  case p1s3 =>
   intro v W hE hd; simp only [Region.wanted, ↓reduceIte]; (try simp [deps, waitsOn, Region.binds, knowing, isV, ownsV, anyV] at hd); simp only [putAll, List.take_succ_cons, List.take_zero, List.drop_succ_cons, List.drop_zero, Act.put, List.setIfInBounds_toArray, List.set_cons_zero, List.set_cons_succ, Nat.zero_add, Nat.reduceAdd]
   go_simp
   have hcc := numPut_at Hn.out hc (RB.below HR.out hE) (by omega) d.kind (by have hk := Hd.out.kind; unfold I64; omega)
   refine hcc.mono ?_
   clear hcc
   rintro e w' ⟨v', rfl, hO, hE2⟩
   have HO := hid hO; have HE2 := hid hE2
   clear hO hE2
   go_simp
   exact ⟨HE2.out, OB.base HO.out (by have := hE.size; have := HE0.out.size; have := Hn0.out; omega)⟩
  case p1s4 =>
   intro v W hE hd; simp only [Region.wanted, ↓reduceIte]; (try simp [deps, waitsOn, Region.binds, knowing, isV, ownsV, anyV] at hd); simp only [putAll, List.take_succ_cons, List.take_zero, List.drop_succ_cons, List.drop_zero, Act.put, List.setIfInBounds_toArray, List.set_cons_zero, List.set_cons_succ, Nat.zero_add, Nat.reduceAdd]; go_simp; exact ⟨Below.refl _ _, rfl⟩
  case p1s5 =>
   intro v W hE hd; simp only [Region.wanted, ↓reduceIte]; (try simp [deps, waitsOn, Region.binds, knowing, isV, ownsV, anyV] at hd); simp only [putAll, List.take_succ_cons, List.take_zero, List.drop_succ_cons, List.drop_zero, Act.put, List.setIfInBounds_toArray, List.set_cons_zero, List.set_cons_succ, Nat.zero_add, Nat.reduceAdd]
   obtain ⟨x0, x1, x2⟩ := (HX.out.ext hE).cells
   go_simp
   exact ⟨Below.refl _ _, rfl⟩
  case p1s6 =>
   intro v W hE hd; simp only [Region.wanted, ↓reduceIte]; (try simp [deps, waitsOn, Region.binds, knowing, isV, ownsV, anyV] at hd); simp only [putAll, List.take_succ_cons, List.take_zero, List.drop_succ_cons, List.drop_zero, Act.put, List.setIfInBounds_toArray, List.set_cons_zero, List.set_cons_succ, Nat.zero_add, Nat.reduceAdd]
   obtain ⟨h3, h5, -⟩ := hd
   obtain ⟨A', n', c', h3e, hn', hc', hR'⟩ := OB.rd (show OB W n0 (v 3) (bs ++ encB d.kind) from h3)
   rw [h3e, h5]
   have hfl := Hd.out.field
   have hel := encB_len (x := d.kind) (by have := Hd.out.kind; omega)
   have hl3 : n' ≤ 700000 := by rw [hn', List.length_append, ← Hn.out]; omega
   have hcc := numPutText_at hn' hc' hR' (by omega) d.field (by omega)
   rw [List.append_assoc] at hcc
   clear hR' h3 hn' hfl hc' hel hl3
   go_simp
   refine hcc.mono ?_
   clear hcc
   rintro e w' ⟨v', rfl, hO, hE2⟩
   have HO := hid hO; have HE2 := hid hE2
   clear hO hE2
   go_simp
   exact ⟨HE2.out, OB.base HO.out (by have := hE.size; have := HE0.out.size; have := Hn0.out; omega)⟩
  case p1s7 =>
   intro v W hE hd; simp only [Region.wanted, ↓reduceIte]; (try simp [deps, waitsOn, Region.binds, knowing, isV, ownsV, anyV] at hd); simp only [putAll, List.take_succ_cons, List.take_zero, List.drop_succ_cons, List.drop_zero, Act.put, List.setIfInBounds_toArray, List.set_cons_zero, List.set_cons_succ, Nat.zero_add, Nat.reduceAdd]; go_simp; exact ⟨Below.refl _ _, rfl⟩
  case p1s8 =>
   intro v W hE hd; simp only [Region.wanted, ↓reduceIte]; (try simp [deps, waitsOn, Region.binds, knowing, isV, ownsV, anyV] at hd); simp only [putAll, List.take_succ_cons, List.take_zero, List.drop_succ_cons, List.drop_zero, Act.put, List.setIfInBounds_toArray, List.set_cons_zero, List.set_cons_succ, Nat.zero_add, Nat.reduceAdd]
   obtain ⟨x0, x1, x2⟩ := (HX.out.ext hE).cells
   go_simp
   exact ⟨Below.refl _ _, rfl⟩
  case p1s9 =>
   intro v W hE hd; simp only [Region.wanted, ↓reduceIte]; (try simp [deps, waitsOn, Region.binds, knowing, isV, ownsV, anyV] at hd); simp only [putAll, List.take_succ_cons, List.take_zero, List.drop_succ_cons, List.drop_zero, Act.put, List.setIfInBounds_toArray, List.set_cons_zero, List.set_cons_succ, Nat.zero_add, Nat.reduceAdd]
   obtain ⟨h6, h8, -⟩ := hd
   obtain ⟨A', n', c', h6e, hn', hc', hR'⟩ := OB.rd (show OB W n0 (v 6) (bs ++ (encB d.kind ++ encT d.field)) from h6)
   rw [h6e, h8]
   have hel := encB_len (x := d.kind) (by have := Hd.out.kind; omega)
   have het := encT_len (s := d.field) (by have := Hd.out.field; omega)
   have hl3 : n' ≤ 700000 := by rw [hn', List.length_append, List.length_append, ← Hn.out]; have := Hd.out.field; omega
   have hcc := putQ_at hn' hc' hR' (by omega) (HQ.out.grow hE) Hd.out.q
   rw [show bs ++ (encB d.kind ++ encT d.field) ++ qB d.q = bs ++ dfB d from by unfold dfB; simp only [List.append_assoc]] at hcc
   clear hR' hn' h6 hc' hel het hl3
   go_simp
   refine hcc.mono ?_
   clear hcc
   rintro e w' ⟨v', rfl, hO, hE2⟩
   have HO := hid hO; have HE2 := hid hE2
   clear hO hE2
   go_simp
   exact ⟨HE2.out, OB.base HO.out (by have := hE.size; have := HE0.out.size; have := Hn0.out; omega)⟩
  case p1s10 =>
   intro v W hE hd; simp only [Region.wanted, ↓reduceIte]; (try simp [deps, waitsOn, Region.binds, knowing, isV, ownsV, anyV] at hd); simp only [putAll, List.take_succ_cons, List.take_zero, List.drop_succ_cons, List.drop_zero, Act.put, List.setIfInBounds_toArray, List.set_cons_zero, List.set_cons_succ, Nat.zero_add, Nat.reduceAdd]
   go_simp
   exact ⟨Below.refl _ _, (show OB W n0 (v 9) (bs ++ dfB d) from by first | exact hd | exact hd.1)⟩
 ·rintro v W9 hE ⟨-, -, -, -, -, -, -, -, -, -, e10, -⟩
  have e10 := (show _ from e10)
  simp only [putAll, List.take_succ_cons, List.take_zero, List.drop_succ_cons, List.drop_zero, Act.put, List.setIfInBounds_toArray, List.set_cons_zero, List.set_cons_succ, Nat.zero_add, Nat.reduceAdd]
  have HO := hid (show OB W9 n0 (v 10) (bs ++ dfB d) from e10)
  have HEf := hid (HE0.out.trans' hE)
  clear e10 hE
  go_wp2
  go_ret
  exact ⟨_, rfl, by rw [← Hn0.out]; exact HO.out, HEf.out⟩
set_option maxRecDepth 100000 in
set_option maxHeartbeats 2000000 in
theorem listDef_at {w : World} {A : Option Addr} {n c : Nat} {bs : List UInt8} (hn : n = bs.length) (hc : n ≤ c) (hr : RB w A bs) (hlen : n ≤ 400000) {B : Option Addr} {m d : Nat} {xs : List DefV} (hx : SlR RDef w (· < w.heap.size) B m d xs) (hm : m ≤ 4) (hxs : ∀ t ∈ xs, FitD t) :
  Calls Tryz.prog 84 #[.slice A n c, .slice B m d, .func (.func 85) #[] #[]] w fun e w' => ∃ v, e = .returned v ∧ OB w' w.heap.size v (bs ++ dfsB xs) ∧ Ext w w' := by
 have hcc := numPut_at hn hc hr (by omega) (m : Int) (by unfold I64; omega)
 have hel := encB_len (x := (m : Int)) (by omega)
 have hmx := hid hx.1
 have hmd := hx.2.1
 have hdm := hx.2.2.1
 have HX := hid hx
 have HXs := hid hxs
 have hbl : bs.length = n := hn.symm
 have Hbl := hid hbl
 clear hr hn hx hxs hbl
 have hg' : ∀ args w, (callFunc 85 args).run Tryz.prog w = .ok (.enter 85 args) w := enters_defs1
 go_enter Tryz.func84, Tryz.ntmps84
 go_wp2_with fail
 refine hcc.mono ?_
 clear hcc
 rintro e w1 ⟨v, rfl, hO, hE⟩
 have HO := hid (show OB w1 w.heap.size v (bs ++ encB (m : Int) ++ (xs.take 0).flatMap dfB) by simpa using hO); have HE := hid hE
 clear hO hE hel
 go_wp2_with fail
 go_loopw [7, 16] (fun u i wr => ∃ k : Nat, k ≤ m ∧ i = .int .i64 (k : Int) ∧ Hid (OB wr w.heap.size u (bs ++ encB (m : Int) ++ (xs.take k).flatMap dfB)) ∧ Hid (Ext w wr)) (fun _ i _ => m - (intOf i).toNat)
 case atStart => exact ⟨0, by omega, rfl, HO, HE⟩
 case round =>
  obtain ⟨k, hk, rfl, HO, HE⟩ := hrel
  by_cases hlt : k < m
  ·have hkx : k < xs.length := by have := hmx.out; omega
   have hlt' : (k : Int) < (m : Int) := by omega
   have hk00 : ¬ ((k : Int) < 0) := by omega
   have hk0 : (0 : Int) ≤ (k : Int) := by omega
   obtain ⟨b, o, B1, d1, rfl, -, f0, f1, f2, -, hq⟩ := def_at (HX.out.grow HE.out) k hkx
   have ht := HXs.out _ (List.getElem_mem hkx)
   have hfl := flat_take (f := dfB) (N := 32460) (xs := xs) (fun x hx => dfB_len (HXs.out x hx)) k
   have hel := encB_len (x := (m : Int)) (by omega)
   have Hnx := hid (flat_next dfB hkx)
   obtain ⟨A', n', c', rfl, hn', hc', hR'⟩ := OB.rd HO.out
   have hln : n' ≤ 400000 + 10 + 32460 * 4 := by rw [hn', List.length_append, List.length_append, Hbl.out]; omega
   clear hfl hel
   generalize xs[k] = t at *
   generalize t.q.length = ql at *
   have hE1 := ext_alloc wr (.cells #[.int .i64 t.kind, .string (str t.field), .slice B1 ql d1] 72)
   have hcc := putDef_at hn' hc' (RB.below hR' hE1) (by omega) (hq.grow hE1) ht
   have HE1 := hid (HE.out.trans' hE1)
   clear hR' hn' hE1 hq
   go_wp2_with fail
   refine hcc.mono ?_
   clear hcc
   rintro e w2 ⟨v, rfl, hO, hE⟩
   have HO2 := hid (show OB w2 w.heap.size v (bs ++ encB (m : Int) ++ (xs.take (k + 1)).flatMap dfB) from by rw [Hnx.out, ← List.append_assoc]; exact OB.base hO HE1.out.size); have HE2 := hid (HE1.out.trans' hE)
   clear hO hE
   go_wp2_with fail
   go_roundw
   case rel => exact ⟨k + 1, by omega, by go_num, HO2, HE2⟩
   case measure => simp [intOf]; omega
  ·obtain rfl : k = m := by omega
   have hlt' : ¬ ((k : Int) < (k : Int)) := by omega
   have HF := hid (show OB wr w.heap.size u7 (bs ++ dfsB xs) from by
    have := HO.out
    rw [List.take_of_length_le (by have := hmx.out; omega), List.append_assoc, hmx.out] at this
    exact this)
   go_wp2
   go_ret
   exact ⟨_, rfl, HF.out, HE.out⟩
def defsE (l : List DefV) : Int := if 4 < l.length then 3 else ((l.map mayDef).find? (· != 0)).getD 0
theorem defsE_bad {l : List DefV} (h4 : l.length ≤ 4) {k : Nat} (hk : k < l.length) (h : mayDef l[k] ≠ 0) (hno : ∀ j (hj : j < k) (h : j < l.length), mayDef l[j] = 0) : defsE l = mayDef l[k] := by
 unfold defsE
 rw [if_neg (by omega)]
 have : (l.map mayDef).find? (· != 0) = some (mayDef l[k]) := by
  rw [List.find?_eq_some_iff_getElem]
  refine ⟨by simpa using h, k, by simpa using hk, by simp, fun j hj => ?_⟩
  simp only [List.getElem_map]
  rw [hno j hj (by omega)]; rfl
 rw [this]; rfl
theorem defsE_ok {l : List DefV} (h4 : l.length ≤ 4) (hno : ∀ j (h : j < l.length), mayDef l[j] = 0) : defsE l = 0 := by
 unfold defsE
 rw [if_neg (by omega)]
 have : (l.map mayDef).find? (· != 0) = none := by
  rw [List.find?_eq_none]
  intro x hx
  obtain ⟨d, hd, rfl⟩ := List.mem_map.1 hx
  obtain ⟨j, hj, rfl⟩ := List.getElem_of_mem hd
  rw [hno j hj]; decide
 rw [this]; rfl
theorem defsE_zero {l : List DefV} (h : defsE l = 0) : l.length ≤ 4 ∧ ∀ d ∈ l, mayDef d = 0 := by
 unfold defsE at h
 split at h
 ·cases h
 rename_i h4
 refine ⟨by omega, fun d hd => Classical.byContradiction fun h0 => ?_⟩
 cases hx : (l.map mayDef).find? (· != 0) with
 | none =>
  have := List.find?_eq_none.1 hx (mayDef d) (List.mem_map.2 ⟨d, hd, rfl⟩)
  simp [h0] at this
 | some y =>
  have := List.find?_some hx
  rw [hx] at h
  simp only [Option.getD_some] at h
  rw [h] at this
  cases this
set_option maxRecDepth 100000 in
set_option maxHeartbeats 2000000 in
theorem putDefsB_at {w : World} {A : Option Addr} {n c : Nat} {xs : List DefV} (hx : SlR RDef w (· < w.heap.size) A n c xs) :
  Calls Tryz.prog 45 #[.slice A n c] w fun e w' => (∃ v, e = .returned (.tuple #[v, .int .i64 (defsE xs)]) ∧ (defsE xs = 0 → OB w' w.heap.size v (dfsB xs))) ∧ Ext w w' := by
 have hn := hid hx.1
 have hnc := hx.2.1
 have hcm := hx.2.2.1
 have HX := hid hx
 clear hx
 go_enter Tryz.func45, Tryz.ntmps45
 by_cases h4 : 4 < n
 ·have g4 : (4 : Int) < (n : Int) := by omega
  have hr := hid (show defsE xs = 3 by unfold defsE; rw [if_pos (by have := hn.out; omega)])
  clear h4
  go_wp2
  go_ret2
  refine ⟨⟨_, by rw [hr.out]; rfl, ?_⟩, Below.refl _ _⟩
  intro h
  rw [hr.out] at h
  cases h
 have g4 : ¬ ((4 : Int) < (n : Int)) := by omega
 have hn4 : n ≤ 4 := by omega
 clear h4
 go_wp2_with fail
 go_loopw [12] (fun i wr => ∃ k : Nat, k ≤ n ∧ i = .int .i64 (k : Int) ∧ Hid (Ext w wr) ∧ Hid (∀ j (hj : j < k) (h : j < xs.length), mayDef xs[j] = 0)) (fun i _ => n - (intOf i).toNat)
 case atStart => exact ⟨0, by omega, rfl, Below.refl _ _, fun j hj => by omega⟩
 case round =>
  obtain ⟨k, hk, rfl, HE, HN⟩ := hrel
  by_cases hlt : k < n
  ·have hkx : k < xs.length := by have := hn.out; omega
   have hlt' : (k : Int) < (n : Int) := by omega
   have hk00 : ¬ ((k : Int) < 0) := by omega
   have hk0 : (0 : Int) ≤ (k : Int) := by omega
   obtain ⟨b, o, B1, d1, rfl, -, f0, f1, f2, -, hq⟩ := def_at (HX.out.grow HE.out) k hkx
   have Hbad := hid (fun h => defsE_bad (l := xs) (by have := hn.out; omega) hkx h HN.out)
   have Hnx := hid (show mayDef xs[k] = 0 → ∀ j (hj : j < k + 1) (h : j < xs.length), mayDef xs[j] = 0 from fun h0 j hj h => by
    rcases Nat.lt_succ_iff_lt_or_eq.1 hj with h' | rfl
    ·exact HN.out j h' h
    ·exact h0)
   have hE1 := ext_alloc wr (.cells #[.int .i64 xs[k].kind, .string (str xs[k].field), .slice B1 xs[k].q.length d1] 72)
   have hcc := mayDef_at (d := xs[k]) (hq.grow hE1)
   unfold defVal at hcc
   have HE1 := hid (HE.out.trans' hE1)
   clear hE1 hq HN
   generalize xs[k] = t at *
   generalize t.q.length = ql at *
   go_wp2_with fail
   refine hcc.mono ?_
   clear hcc
   rintro e w2 ⟨rfl, hE⟩
   have HE2 := hid (HE1.out.trans' hE)
   clear hE f0 f1 f2
   by_cases h0 : mayDef t = 0
   ·rw [h0]
    have hn2 := hid (Hnx.out h0)
    clear h0 Hbad
    go_wp2_with fail
    go_roundw
    case rel => exact ⟨k + 1, by omega, by go_num, HE2, hn2⟩
    case measure => simp [intOf]; omega
   ·have hr := hid (Hbad.out h0)
    clear Hbad Hnx
    generalize mayDef t = me at *
    have hx : (me != 0) = true := by simpa using h0
    have hx2 : (me == 0) = false := by simpa using h0
    go_wp2
    go_ret2
    refine ⟨⟨_, by rw [hr.out]; rfl, ?_⟩, HE2.out⟩
    intro h
    rw [hr.out] at h
    exact absurd h h0
  ·obtain rfl : k = n := by omega
   have hlt' : ¬ ((k : Int) < (k : Int)) := by omega
   have hall : ∀ j (h : j < xs.length), mayDef xs[j] = 0 := fun j h => HN.out j (by have := hn.out; omega) h
   have hr := hid (defsE_ok (by have := hn.out; omega) hall)
   have hfd : ∀ t ∈ xs, FitD t := fun t ht => by
    obtain ⟨j, hj, rfl⟩ := List.getElem_of_mem ht
    exact fitD_may (hall j hj)
   have hcc := listDef_at (w := wr) (A := none) (n := 0) (c := 0) (bs := []) rfl (Nat.le_refl _) (RB.nil _ _) (by omega) (HX.out.grow HE.out) hn4 hfd
   clear hall hfd HN
   go_wp2_with fail
   refine hcc.mono ?_
   clear hcc
   rintro e w2 ⟨v, rfl, hO, hE⟩
   have HE2 := hid (HE.out.trans' hE)
   have HO2 := hid (OB.base hO HE.out.size)
   clear hO hE
   go_wp2
   go_ret2
   exact ⟨⟨_, by rw [hr.out]; rfl, fun _ => HO2.out⟩, HE2.out⟩
theorem putDefs_at {w : World} {A : Option Addr} {n c : Nat} {xs : List DefV} (hx : SlR RDef w (· < w.heap.size) A n c xs) :
  Calls Tryz.prog 45 #[.slice A n c] w fun e w' => (∃ v, e = .returned (.tuple #[v, .int .i64 (defsE xs)])) ∧ Ext w w' := (putDefsB_at hx).mono fun e w' ⟨⟨v, h, _⟩, hE⟩ => ⟨⟨v, h⟩, hE⟩
end Go.Proofs.YtakebdeldndaaaaGreatDoor
