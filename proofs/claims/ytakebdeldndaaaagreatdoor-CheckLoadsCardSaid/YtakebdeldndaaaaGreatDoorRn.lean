/- Several texts of this claim's, one behind the other. -/
import Derived.Test.YtakebdeldndaaaaGreatDoorNum
import Derived.Laws.IdiomStrings
import Derived.Deep.DeepCutAuto
import Derived.Test.YtakebdeldndaaaaGreatDoorQB0
import Derived.Test.YtakebdeldndaaaaGreatDoorPja
import Derived.Test.YtakebdeldndaaaaGreatDoorRq
import Derived.Test.YtakebdeldndaaaaGreatDoorQcb
import Derived.Test.YtakebdeldndaaaaGreatDoorFound
/- registrarref01: Put, PutText. -/
namespace Go.Proofs.YtakebdeldndaaaaGreatDoor
open Go Go.RowKit
set_option linter.unusedSimpArgs false
set_option linter.unusedVariables false
theorem rem_byte (u : Nat) : (u : Int) % 128 + 128 = ((UInt8.ofNat (u % 128 + 128)).toNat : Int) := by
 rw [UInt8.toNat_ofNat']
 omega
set_option maxRecDepth 100000 in
set_option maxHeartbeats 2000000 in
theorem refNPut_at {w : World} {A : Option Addr} {n c : Nat} {bs : List UInt8} (hn : n = bs.length) (hc : n ≤ c) (hr : RB w A bs) (hlen : n ≤ 1000000000) (x : Int) (hx : I64 x) :
  Calls Tryz.prog 87 #[.slice A n c, .int .i64 x] w fun e w' => ∃ v, e = .returned v ∧ OB w' w.heap.size v (bs ++ encB x) ∧ Ext w w' := by
 have Hn := hid hn
 have Hr := hid hr
 have Hx := hid hx
 have hx1 : -9223372036854775808 ≤ x := hx.1
 have hx2 : x ≤ 9223372036854775807 := hx.2
 have hwu : ∀ a : Int, IntKind.u64.wrap a = a % 18446744073709551616 := fun a => IntKind.wrap_u64 a
 have hwi : ∀ a : Int, -9223372036854775808 ≤ a → a ≤ 9223372036854775807 → IntKind.i64.wrap a = a := fun a h1 h2 => by rw [IntKind.wrap_i64]; omega
 clear hn hr hx
 go_enter Tryz.func87, Tryz.ntmps87
 go_upto_if 11 with (fail)
 go_cut [5] (fun u wx => u = .int .u64 ((zig x : Nat) : Int) ∧ Hid (wx = w))
 case first =>
  by_cases h0 : x < 0
  ·go_wp2_with fail
   go_meet
   case rel => exact ⟨by unfold zig; rw [if_neg (by omega)]; congr 1; omega, hid rfl⟩
  ·go_wp2_with fail
   go_meet
   case rel => exact ⟨by unfold zig; rw [if_pos (by omega)]; congr 1; omega, hid rfl⟩
 case rest =>
 obtain ⟨rfl, hw⟩ := hcut
 obtain rfl := hw.out.symm
 clear hw hwu hwi
 have HZ := hid (zig_lt Hx.out)
 have hE0 := ext_alloc w (.cells #[] 5)
 have HR0 := hid (Hr.out.below hE0)
 have HE0 := hid hE0
 have hbl : bs.length = n := Hn.out.symm
 clear hE0
 go_wp2_with (at_builtin; refine wpList_appB (w0 := w) rfl (.tmp 18) (.tmp 19) rfl w.heap.size _ [] rfl (OB_empty w _ (Nat.le_refl _)) HE0 HE0.out.size A c n bs rfl Hn HR0 (by simp; omega) ?_; intro v w2 HO HB _)
 go_loopw [6, 5] (fun out uv wr => ∃ (u : Nat) (pre : List UInt8), u < 18446744073709551616 ∧ uv = .int .u64 (u : Int) ∧ Hid (pre ++ varB u = encB x ∧ pre.length ≤ 10) ∧ Hid (OB wr w.heap.size out (bs ++ pre)) ∧ Hid (Ext w wr)) (fun _ uv _ => (intOf uv).toNat)
 case atStart => exact ⟨zig x, [], HZ.out, rfl, hid ⟨rfl, by simp⟩, by rw [List.append_nil]; exact HO, HB⟩
 case round =>
  obtain ⟨u, pre, hu, rfl, HP, HO, HE⟩ := hrel
  have hpl := HP.out.2
  have hel := encB_len Hx.out
  by_cases h128 : (128 : Int) ≤ (u : Int)
  ·have hnu : ¬ u < 128 := by omega
   have Hb := hid (rem_byte u)
   have hle := congrArg List.length HP.out.1
   rw [varB_more hnu, List.length_append, List.length_cons] at hle
   have hvp := varB_pos (u / 128)
   have HP2 := hid (show (pre ++ [UInt8.ofNat (u % 128 + 128)]) ++ varB (u / 128) = encB x ∧ (pre ++ [UInt8.ofNat (u % 128 + 128)]).length ≤ 10 from ⟨by rw [← HP.out.1, varB_more hnu, List.append_assoc]; rfl, by rw [List.length_append]; simp only [List.length_cons, List.length_nil]; omega⟩)
   have hsz := HE.out.size
   have HLb := hid (show (bs ++ pre).length < 140737488355328 by rw [List.length_append]; omega)
   clear hle hvp
   go_wp2_with (at_builtin; refine wpList_appB1 (w0 := w) rfl (.tmp 23) (.tmp 28) rfl w.heap.size _ (bs ++ pre) rfl HO HE hsz (UInt8.ofNat (u % 128 + 128)) _ Hb.out rfl HLb.out ?_; intro v2 w2 HO2 HB2 _)
   go_roundw
   case rel => exact ⟨u / 128, _, by omega, by go_num, HP2, by rw [← List.append_assoc]; exact HO2, HB2⟩
   case measure => simp [intOf]; omega
  ·have hnu : u < 128 := by omega
   have hb := byte_bits u
   have hsz := HE.out.size
   have HLb := hid (show (bs ++ pre).length < 140737488355328 by rw [List.length_append]; omega)
   have HF := hid (show bs ++ pre ++ [UInt8.ofNat u] = bs ++ encB x by rw [← HP.out.1, varB_one hnu, List.append_assoc])
   go_wp2_with (at_builtin; refine wpList_appB1 (w0 := w) rfl (.tmp 32) (.tmp 35) rfl w.heap.size _ (bs ++ pre) rfl HO HE hsz (UInt8.ofNat u) _ hb rfl HLb.out ?_; intro v2 w2 HO2 HB2 _)
   go_ret
   exact ⟨_, rfl, by have := HO2.out; rw [HF.out] at this; exact this, HB2.out⟩
set_option maxRecDepth 100000 in
theorem conv_bytes (w : World) (t : List UInt8) : ∃ c w2, (convert 9 23 (.string (str t))).run Tryz.prog w = .ok (.slice (some ⟨w.heap.size, 0, none⟩) t.length c) w2 ∧ RB w2 (some ⟨w.heap.size, 0, none⟩) t ∧ Ext w w2 := by
 refine ⟨_, _, run_bytes_of_string w _ _ 5 (str t) Tryz.underlying9 u8info.ht (by kernel_rfl), .inr ⟨_, 0, rfl, fun j u hu => ?_⟩, ⟨rfl, rfl, rfl, (by show w.heap.size ≤ (w.heap.push _).size; rw [Array.size_push]; omega), fun k hk => ?_⟩⟩
 ·have hl := heap_alloc_last w.drew (.cells (bytesRow (str t) (grownCap w (str t).size 0 5)) 5 ((bytesRow (str t) (grownCap w (str t).size 0 5)).size, (bytesRow (str t) (grownCap w (str t).size 0 5)).size + 1))
  refine (cell_of_row _ w.heap.size _ _ _ _ hl).trans ?_
  have hj : j < t.length := by have := (List.getElem?_eq_some_iff.1 hu).1; rwa [bvs_length] at this
  unfold bytesRow
  rw [Nat.zero_add, Array.getElem?_append_left (by simp [str]; exact hj)]
  unfold bvs at hu
  rw [← hu]
  simp [str]
  rfl
 ·show (w.heap.push _)[k]? = _
  rw [Array.getElem?_push_lt hk]
  exact (Array.getElem?_eq_getElem hk).symm
set_option maxRecDepth 100000 in
set_option maxHeartbeats 2000000 in
theorem refNPutText_at {w : World} {A : Option Addr} {n c : Nat} {bs : List UInt8} (hn : n = bs.length) (hc : n ≤ c) (hr : RB w A bs) (hlen : n ≤ 1000000000) (t : List UInt8) (ht : t.length ≤ 1000000000) :
  Calls Tryz.prog 90 #[.slice A n c, .string (str t)] w fun e w' => ∃ v, e = .returned v ∧ OB w' w.heap.size v (bs ++ encT t) ∧ Ext w w' := by
 have hcc := refNPut_at hn hc hr hlen (t.length : Int) (by unfold I64; omega)
 have hsz := str_size t
 have hel := encB_len (x := (t.length : Int)) (by omega)
 have hbl : bs.length ≤ 1000000000 := by omega
 clear hr hn
 go_enter Tryz.func90, Tryz.ntmps90
 go_wp2_with fail
 refine hcc.mono ?_
 clear hcc
 rintro e w1 ⟨v, rfl, hO, hE⟩
 obtain ⟨c2, w2, hcv, hR2, hE2⟩ := conv_bytes w1 t
 have HO := hid (OB.below hO hE2); have HE := hid (hE.trans' hE2); have HR2 := hid hR2
 have hs1 := HE.out.size
 have HLb := hid (show (bs ++ encB (t.length : Int)).length + t.length ≤ 140737488355328 by rw [List.length_append]; omega)
 clear hO hE hE2 hR2
 go_wp2_with (at_builtin; refine wpList_appB (w0 := w) rfl (.tmp 8) (.tmp 10) rfl w.heap.size _ (bs ++ encB (t.length : Int)) rfl HO HE hs1 (some ⟨w1.heap.size, 0, none⟩) c2 t.length t rfl (hid rfl) HR2 HLb.out ?_; intro v2 w3 HO2 HB2 _)
 go_ret
 exact ⟨_, rfl, by have := HO2.out; rw [List.append_assoc] at this; exact this, HB2.out⟩
end Go.Proofs.YtakebdeldndaaaaGreatDoor
/- Queries and projections as bytes: see QB0. -/
namespace Go.Proofs.YtakebdeldndaaaaGreatDoor
end Go.Proofs.YtakebdeldndaaaaGreatDoor
/- registrarref07: texts, Put, PutDefs. -/
namespace Go.Proofs.YtakebdeldndaaaaGreatDoor
open Go Go.RowKit
set_option linter.unusedSimpArgs false
set_option linter.unusedVariables false
set_option maxRecDepth 100000 in
set_option maxHeartbeats 2000000 in
theorem refTexts_at {w : World} {A : Option Addr} {n c : Nat} {bs : List UInt8} (hn : n = bs.length) (hc : n ≤ c) (hr : RB w A bs) (hlen : n ≤ 1000000) {B : Option Addr} {m d : Nat} {xs : List Str} (hx : SlR Rep.txt w (· < w.heap.size) B m d xs) (hm : m ≤ 4) (hxs : ∀ t ∈ xs, t.length ≤ 1000) :
  Calls Tryz.prog 130 #[.slice A n c, .slice B m d] w fun e w' => ∃ v, e = .returned v ∧ OB w' w.heap.size v (bs ++ lsB xs) ∧ Ext w w' := by
 have hcc := refNPut_at hn hc hr (by omega) (m : Int) (by unfold I64; omega)
 have hmx := hid hx.1
 have hmd := hx.2.1
 have hdm := hx.2.2.1
 have HX := hid hx
 have HXs := hid hxs
 have hbl : bs.length = n := hn.symm
 have Hbl := hid hbl
 clear hr hn hx hxs hbl
 go_enter Tryz.func130, Tryz.ntmps130
 go_wp2_with fail
 refine hcc.mono ?_
 clear hcc
 rintro e w1 ⟨v, rfl, hO, hE⟩
 have HO := hid (show OB w1 w.heap.size v (bs ++ encB (m : Int) ++ (xs.take 0).flatMap encT) by simpa using hO); have HE := hid hE
 clear hO hE
 go_wp2_with fail
 go_loopw [5, 6] (fun u i wr => ∃ k : Nat, k ≤ m ∧ i = .int .i64 (k : Int) ∧ Hid (OB wr w.heap.size u (bs ++ encB (m : Int) ++ (xs.take k).flatMap encT)) ∧ Hid (Ext w wr)) (fun _ i _ => m - (intOf i).toNat)
 case atStart => exact ⟨0, by omega, rfl, HO, HE⟩
 case round =>
  obtain ⟨k, hk, rfl, HO, HE⟩ := hrel
  by_cases hlt : k < m
  ·have hkx : k < xs.length := by have := hmx.out; omega
   have hlt' : (k : Int) < (m : Int) := by omega
   have hk00 : ¬ ((k : Int) < 0) := by omega
   have hk0 : (0 : Int) ≤ (k : Int) := by omega
   obtain ⟨b, o, rfl, -, f0, -⟩ := txt_at (HX.out.grow HE.out) k hkx
   have ht := HXs.out _ (List.getElem_mem hkx)
   have hfl := flat_take (f := encT) (N := 1010) (xs := xs) (fun x hx => encT_small (HXs.out x hx)) k
   have hel := encB_len (x := (m : Int)) (by omega)
   have Hnx := hid (flat_next encT hkx)
   obtain ⟨A', n', c', rfl, hn', hc', hR'⟩ := OB.rd HO.out
   have hln : n' ≤ 1000000 + 10 + 1010 * 4 := by rw [hn', List.length_append, List.length_append, Hbl.out]; omega
   generalize xs[k] = t at *
   have hcc := refNPutText_at hn' hc' hR' (by omega) t (by omega)
   clear hR' hn' hel hfl
   go_wp2_with fail
   refine hcc.mono ?_
   clear hcc
   rintro e w2 ⟨v, rfl, hO, hE⟩
   have HO2 := hid (show OB w2 w.heap.size v (bs ++ encB (m : Int) ++ (xs.take (k + 1)).flatMap encT) from by rw [Hnx.out, ← List.append_assoc]; exact OB.base hO HE.out.size); have HE2 := hid (HE.out.trans' hE)
   clear hO hE
   go_wp2_with fail
   go_roundw
   case rel => exact ⟨k + 1, by omega, by go_num, HO2, HE2⟩
   case measure => simp [intOf]; omega
  ·obtain rfl : k = m := by omega
   have hlt' : ¬ ((k : Int) < (k : Int)) := by omega
   have HF := hid (show OB wr w.heap.size u5 (bs ++ lsB xs) from by
    have := HO.out
    rw [List.take_of_length_le (by have := hmx.out; omega), List.append_assoc, hmx.out] at this
    exact this)
   go_wp2
   go_ret
   exact ⟨_, rfl, HF.out, HE.out⟩
set_option maxRecDepth 100000 in
set_option maxHeartbeats 2000000 in
theorem refQPut_at {w : World} {A : Option Addr} {n c : Nat} {bs : List UInt8} (hn : n = bs.length) (hc : n ≤ c) (hr : RB w A bs) (hlen : n ≤ 500000) {B : Option Addr} {m d : Nat} {q : List ClV} (hx : SlR RCl w (· < w.heap.size) B m d q) (hq : mayQ q = 0) :
  Calls Tryz.prog 89 #[.slice A n c, .agg #[.slice B m d]] w fun e w' => ∃ v, e = .returned (.tuple #[v, .int .i64 0]) ∧ OB w' w.heap.size v (bs ++ qB q) ∧ Ext w w' := by
 obtain ⟨h4, hfc⟩ := fitC_may hq
 have hmx := hid hx.1
 have hmd := hx.2.1
 have hdm := hx.2.2.1
 have hm4 : m ≤ 4 := by rw [hx.1]; exact h4
 have Hfc := hid hfc
 have HX := hid hx
 have hE0 := ext_alloc w (.cells #[.slice B m d] 70)
 have hmay := refQMay_at (hx.grow hE0)
 rw [hq] at hmay
 have HE0 := hid hE0
 have Hbx := hid (show (w.alloc (.cells #[.slice B m d] 70)).heap[w.heap.size]? = some (.cells #[.slice B m d] 70) from heap_alloc_last _ _)
 have b0 : (w.alloc (.cells #[.slice B m d] 70)).cell? ⟨w.heap.size, 0, none⟩ = some (.slice B m d) := by rw [cell_of_row _ _ _ _ _ _ Hbx.out]; rfl
 have Hbl := hid (show bs.length = n from hn.symm)
 have Hn := hid hn
 have Hr := hid hr
 clear hx hq hfc hE0 hr hn h4
 go_enter Tryz.func89, Tryz.ntmps89
 go_wp2_with fail
 obtain ⟨bx, hbx⟩ : ∃ bx, bx = w.heap.size := ⟨_, rfl⟩
 have Hbxe := hid hbx
 rw [← hbx] at Hbx b0 ⊢
 clear hbx
 generalize w.alloc (.cells #[.slice B m d] 70) = w0 at *
 refine hmay.mono ?_
 clear hmay
 rintro e w1 ⟨rfl, hE⟩
 have HE1 := hid (HE0.out.trans' hE)
 have Hbx := hid (show w1.heap[bx]? = some (.cells #[.slice B m d] 70) from (hE.block bx (Array.getElem?_eq_some_iff.1 Hbx.out).1).trans Hbx.out)
 clear hE b0
 have b0 : w1.cell? ⟨bx, 0, none⟩ = some (.slice B m d) := by rw [cell_of_row _ _ _ _ _ _ Hbx.out]; rfl
 have hcc := refNPut_at Hn.out hc (RB.below Hr.out HE1.out) (by omega) (m : Int) (by unfold I64; omega)
 go_wp2_with fail
 refine hcc.mono ?_
 clear hcc b0
 rintro e w2 ⟨v, rfl, hO, hE⟩
 have HO := hid (show OB w2 w.heap.size v (bs ++ encB (m : Int) ++ (q.take 0).flatMap clB) by simpa using OB.base hO HE1.out.size)
 have HB2 := hid (show bx < w2.heap.size ∧ w2.cell? ⟨bx, 0, none⟩ = some (.slice B m d) from by
  have h1 := (hE.block bx (Array.getElem?_eq_some_iff.1 Hbx.out).1).trans Hbx.out
  exact ⟨(Array.getElem?_eq_some_iff.1 h1).1, by rw [cell_of_row _ _ _ _ _ _ h1]; rfl⟩)
 have HE2 := hid (HE1.out.trans' hE)
 clear hO hE
 go_wp2_with fail
 go_loopw [7, 8] (fun u i wr => ∃ k : Nat, k ≤ m ∧ i = .int .i64 (k : Int) ∧ Hid (OB wr w.heap.size u (bs ++ encB (m : Int) ++ (q.take k).flatMap clB)) ∧ Hid (Ext w wr) ∧ Hid (Ext w2 wr)) (fun _ i _ => m - (intOf i).toNat)
 case atStart => exact ⟨0, by omega, rfl, HO, HE2, hid (Below.refl _ _)⟩
 case round =>
  obtain ⟨k, hk, rfl, HO, HE, HE3⟩ := hrel
  have b0 := cell_below HE3.out HB2.out.2
  by_cases hlt : k < m
  ·have hkx : k < q.length := by have := hmx.out; omega
   have hlt' : (k : Int) < (m : Int) := by omega
   have hk00 : ¬ ((k : Int) < 0) := by omega
   have hk0 : (0 : Int) ≤ (k : Int) := by omega
   obtain ⟨b, o, T, ta, U, ua, rfl, -, f0, f1, hT, hU⟩ := cl_at (HX.out.grow HE.out) k hkx
   have hfl := flat_take (f := clB) (N := 8100) (xs := q) (fun x hx => clB_len (Hfc.out x hx)) k
   have hel := encB_len (x := (m : Int)) (by omega)
   have Hnx := hid (flat_next clB hkx)
   have Hft := hid (Hfc.out _ (List.getElem_mem hkx))
   obtain ⟨A', n', c', rfl, hn', hc', hR'⟩ := OB.rd HO.out
   have hln : n' ≤ 500000 + 10 + 8100 * 4 := by rw [hn', List.length_append, List.length_append, Hbl.out]; omega
   generalize q[k] = t at *
   have HT := hid hT; have HU := hid hU
   have Htl := hid (show t.tags.length ≤ 4 ∧ t.types.length ≤ 4 from Hft.out.few)
   have Htm := hid (lsB_len Hft.out.few.1 (Nat.le_refl 4) Hft.out.tags)
   generalize t.tags.length = tl at *
   generalize t.types.length = ul at *
   generalize hpre : bs ++ encB (m : Int) ++ (q.take k).flatMap clB = pre at *
   have Hpre := hid hpre
   have HR' := hid hR'; have Hn' := hid hn'
   have Hf := hid (And.intro f0 (And.intro f1 b0))
   clear hT hU hfl hel hR' hn' hpre HO f0 f1
   go_wp2_with fail
   clear b0
   apply wp_drawn_last 15 [isV _, isV _, isV _, isV _, isV _, isV _, isV _, obX w.heap.size (pre ++ lsB t.tags), isV _, isV _, isV _, isV _, isV _, isV _, obX w.heap.size (pre ++ clB t)] (by decide) (by kernel_rfl)
   ·kernel_rfl
   ·kernel_rfl
   ·refine ⟨?qps0, ?qps1, ?qps2, ?qps3, ?qps4, ?qps5, ?qps6, ?qps7, ?qps8, ?qps9, ?qps10, ?qps11, ?qps12, ?qps13, ?qps14, trivial⟩
    case qps0 | qps1 =>
     intro v W hE hd; simp only [Region.wanted, ↓reduceIte]; (try simp [deps, waitsOn, Region.binds, knowing, isV, ownsV, anyV] at hd); simp only [putAll, List.take_succ_cons, List.take_zero, List.drop_succ_cons, List.drop_zero, Act.put, List.setIfInBounds_toArray, List.set_cons_zero, List.set_cons_succ, Nat.zero_add, Nat.reduceAdd]; go_simp; exact ⟨Below.refl _ _, rfl⟩
    case qps2 =>
     intro v W hE hd; simp only [Region.wanted, ↓reduceIte]; (try simp [deps, waitsOn, Region.binds, knowing, isV, ownsV, anyV] at hd); simp only [putAll, List.take_succ_cons, List.take_zero, List.drop_succ_cons, List.drop_zero, Act.put, List.setIfInBounds_toArray, List.set_cons_zero, List.set_cons_succ, Nat.zero_add, Nat.reduceAdd]
     have b0 := cell_below hE Hf.out.2.2
     go_simp
     exact ⟨Below.refl _ _, rfl⟩
    case qps3 | qps4 | qps5 =>
     intro v W hE hd; simp only [Region.wanted, ↓reduceIte]; (try simp [deps, waitsOn, Region.binds, knowing, isV, ownsV, anyV] at hd); simp only [putAll, List.take_succ_cons, List.take_zero, List.drop_succ_cons, List.drop_zero, Act.put, List.setIfInBounds_toArray, List.set_cons_zero, List.set_cons_succ, Nat.zero_add, Nat.reduceAdd]; go_simp; exact ⟨Below.refl _ _, rfl⟩
    case qps6 =>
     intro v W hE hd; simp only [Region.wanted, ↓reduceIte]; (try simp [deps, waitsOn, Region.binds, knowing, isV, ownsV, anyV] at hd); simp only [putAll, List.take_succ_cons, List.take_zero, List.drop_succ_cons, List.drop_zero, Act.put, List.setIfInBounds_toArray, List.set_cons_zero, List.set_cons_succ, Nat.zero_add, Nat.reduceAdd]
     have b0 := cell_below hE Hf.out.1
     go_simp
     exact ⟨Below.refl _ _, rfl⟩
    case qps7 =>
     intro v W hE hd; simp only [Region.wanted, ↓reduceIte]; (try simp [deps, waitsOn, Region.binds, knowing, isV, ownsV, anyV] at hd); simp only [putAll, List.take_succ_cons, List.take_zero, List.drop_succ_cons, List.drop_zero, Act.put, List.setIfInBounds_toArray, List.set_cons_zero, List.set_cons_succ, Nat.zero_add, Nat.reduceAdd]
     have hcc := refTexts_at Hn'.out hc' (RB.below HR'.out hE) (by omega) (HT.out.grow hE) Htl.out.1 Hft.out.tags
     go_simp
     refine hcc.mono ?_
     clear hcc
     rintro e w' ⟨v', rfl, hO, hE2⟩
     have HOo := hid hO; have HEe := hid hE2
     clear hO hE2
     go_simp
     exact ⟨HEe.out, OB.base HOo.out (by have := hE.size; have := HE.out.size; omega)⟩
    case qps8 =>
     intro v W hE hd; simp only [Region.wanted, ↓reduceIte]; (try simp [deps, waitsOn, Region.binds, knowing, isV, ownsV, anyV] at hd); simp only [putAll, List.take_succ_cons, List.take_zero, List.drop_succ_cons, List.drop_zero, Act.put, List.setIfInBounds_toArray, List.set_cons_zero, List.set_cons_succ, Nat.zero_add, Nat.reduceAdd]; go_simp; exact ⟨Below.refl _ _, rfl⟩
    case qps9 =>
     intro v W hE hd; simp only [Region.wanted, ↓reduceIte]; (try simp [deps, waitsOn, Region.binds, knowing, isV, ownsV, anyV] at hd); simp only [putAll, List.take_succ_cons, List.take_zero, List.drop_succ_cons, List.drop_zero, Act.put, List.setIfInBounds_toArray, List.set_cons_zero, List.set_cons_succ, Nat.zero_add, Nat.reduceAdd]
     have b0 := cell_below hE Hf.out.2.2
     go_simp
     exact ⟨Below.refl _ _, rfl⟩
    case qps10 | qps11 | qps12 =>
     intro v W hE hd; simp only [Region.wanted, ↓reduceIte]; (try simp [deps, waitsOn, Region.binds, knowing, isV, ownsV, anyV] at hd); simp only [putAll, List.take_succ_cons, List.take_zero, List.drop_succ_cons, List.drop_zero, Act.put, List.setIfInBounds_toArray, List.set_cons_zero, List.set_cons_succ, Nat.zero_add, Nat.reduceAdd]; go_simp; exact ⟨Below.refl _ _, rfl⟩
    case qps13 =>
     intro v W hE hd; simp only [Region.wanted, ↓reduceIte]; (try simp [deps, waitsOn, Region.binds, knowing, isV, ownsV, anyV] at hd); simp only [putAll, List.take_succ_cons, List.take_zero, List.drop_succ_cons, List.drop_zero, Act.put, List.setIfInBounds_toArray, List.set_cons_zero, List.set_cons_succ, Nat.zero_add, Nat.reduceAdd]
     have b0 := cell_below hE Hf.out.2.1
     go_simp
     exact ⟨Below.refl _ _, rfl⟩
    case qps14 =>
     intro v W hE hd; simp only [Region.wanted, ↓reduceIte]; (try simp [deps, waitsOn, Region.binds, knowing, isV, ownsV, anyV] at hd); simp only [putAll, List.take_succ_cons, List.take_zero, List.drop_succ_cons, List.drop_zero, Act.put, List.setIfInBounds_toArray, List.set_cons_zero, List.set_cons_succ, Nat.zero_add, Nat.reduceAdd]
     obtain ⟨h7, h13, -⟩ := hd
     obtain ⟨A3, n3, c3, e3, hn3, hc3, hr3⟩ := OB.rd (show OB W w.heap.size (v 7) (pre ++ lsB t.tags) from h7)
     have hl3 : n3 ≤ 1000000 := by rw [hn3, List.length_append, ← Hn'.out]; have := Htm.out; omega
     rw [e3, h13]
     have hcc := refTexts_at hn3 hc3 hr3 hl3 (HU.out.grow hE) Htl.out.2 Hft.out.types
     rw [List.append_assoc] at hcc
     clear h7 hn3 hr3 hl3
     go_simp
     refine hcc.mono ?_
     clear hcc
     rintro e w' ⟨v', rfl, hO, hE2⟩
     have HOo := hid hO; have HEe := hid hE2
     clear hO hE2
     go_simp
     exact ⟨HEe.out, OB.base HOo.out (by have := hE.size; have := HE.out.size; omega)⟩
   ·rintro v W9 hE ⟨-, -, -, -, -, -, -, -, -, -, -, -, -, -, e14, -⟩
    have e14 := (show _ from e14)
    simp only [putAll, List.take_succ_cons, List.take_zero, List.drop_succ_cons, List.drop_zero, Act.put, List.setIfInBounds_toArray, List.set_cons_zero, List.set_cons_succ, Nat.zero_add, Nat.reduceAdd]
    have HOf := hid (show OB W9 w.heap.size (v 14) (bs ++ encB (m : Int) ++ (q.take (k + 1)).flatMap clB) from by rw [Hnx.out, ← List.append_assoc, Hpre.out]; exact e14)
    have HEf := hid (HE.out.trans' hE)
    have HEg := hid (HE3.out.trans' hE)
    clear hE e14
    go_wp2_with fail
    go_roundw
    case rel => exact ⟨k + 1, by omega, by go_num, HOf, HEf, HEg⟩
    case measure => simp [intOf]; omega
  ·obtain rfl : k = m := by omega
   have hlt' : ¬ ((k : Int) < (k : Int)) := by omega
   have HF := hid (show OB wr w.heap.size u7 (bs ++ qB q) from by
    have := HO.out
    rw [List.take_of_length_le (by have := hmx.out; omega), List.append_assoc, hmx.out] at this
    exact this)
   go_wp2
   go_ret2
   exact ⟨_, rfl, HF.out, HE.out⟩
end Go.Proofs.YtakebdeldndaaaaGreatDoor
/- registrarref07.PutDefs. -/
namespace Go.Proofs.YtakebdeldndaaaaGreatDoor
open Go Go.RowKit
set_option linter.unusedSimpArgs false
set_option linter.unusedVariables false
def tupX (base : Nat) (bs : List UInt8) : SPred := ⟨fun v w => ∃ v', v = .tuple #[v', .int .i64 0] ∧ OB w base v' bs, fun _ _ _ ⟨v', e, h⟩ hE => ⟨v', e, OB.below h hE⟩⟩
set_option maxRecDepth 100000 in
set_option maxHeartbeats 2000000 in
theorem refPutDefs_at {w : World} {A : Option Addr} {n c : Nat} {xs : List DefV} (hx : SlR RDef w (· < w.heap.size) A n c xs) :
  Calls Tryz.prog 47 #[.slice A n c] w fun e w' => ∃ v, e = .returned (.tuple #[v, .int .i64 (defsE xs)]) ∧ (defsE xs = 0 → OB w' w.heap.size v (dfsB xs)) ∧ Ext w w' := by
 have hn := hid hx.1
 have hnc := hx.2.1
 have hcm := hx.2.2.1
 have HX := hid hx
 clear hx
 go_enter Tryz.func47, Tryz.ntmps47
 by_cases h4 : 4 < n
 ·have g4 : (4 : Int) < (n : Int) := by omega
  have hr := hid (show defsE xs = 3 by unfold defsE; rw [if_pos (by have := hn.out; omega)])
  clear h4
  go_wp2
  go_ret2
  refine ⟨_, by rw [hr.out]; rfl, ?_, Below.refl _ _⟩
  intro h
  rw [hr.out] at h
  cases h
 have g4 : ¬ ((4 : Int) < (n : Int)) := by omega
 have hn4 : n ≤ 4 := by omega
 have hcc := refNPut_at (w := w) (A := none) (n := 0) (c := 0) (bs := []) rfl (Nat.le_refl _) (RB.nil _ _) (by omega) (n : Int) (by unfold I64; omega)
 clear h4
 go_wp2_with fail
 refine hcc.mono ?_
 clear hcc
 rintro e w1 ⟨v, rfl, hO, hE⟩
 have HO := hid (show OB w1 w.heap.size v (encB (n : Int) ++ (xs.take 0).flatMap dfB) by simpa using hO); have HE := hid hE
 clear hO hE
 go_wp2_with fail
 go_loopw [4, 5] (fun u i wr => ∃ k : Nat, k ≤ n ∧ i = .int .i64 (k : Int) ∧ Hid (OB wr w.heap.size u (encB (n : Int) ++ (xs.take k).flatMap dfB)) ∧ Hid (Ext w wr) ∧ Hid (∀ j (hj : j < k) (h : j < xs.length), mayDef xs[j] = 0)) (fun _ i _ => n - (intOf i).toNat)
 case atStart => exact ⟨0, by omega, rfl, HO, HE, fun j hj => by omega⟩
 case round =>
  obtain ⟨k, hk, rfl, HO, HE, HN⟩ := hrel
  by_cases hlt : k < n
  ·have hkx : k < xs.length := by have := hn.out; omega
   have hlt' : (k : Int) < (n : Int) := by omega
   have hk00 : ¬ ((k : Int) < 0) := by omega
   have hk0 : (0 : Int) ≤ (k : Int) := by omega
   obtain ⟨b, o, B1, d1, rfl, -, f0, f1, f2, -, hq⟩ := def_at (HX.out.grow HE.out) k hkx
   have Hbad := hid (fun h => defsE_bad (l := xs) (by have := hn.out; omega) hkx h HN.out)
   have Hnx := hid (show mayDef xs[k] = 0 → ∀ j (hj : j < k + 1) (h : j < xs.length), mayDef xs[j] = 0 from fun h0 j hj h => by
    rcases Nat.lt_succ_iff_lt_or_eq.1 hj with h' | rfl
    ·exact HN.out j h' h
    ·exact h0)
   have hfl := flat_take' (f := dfB) (N := 32460) (xs := xs) (k := k) (fun j hj h => dfB_len (fitD_may (HN.out j hj h)))
   have Hfx := hid (flat_next dfB hkx)
   have hel := encB_len (x := (n : Int)) (by omega)
   obtain ⟨A', n', c', rfl, hn', hc', hR'⟩ := OB.rd HO.out
   have hln : n' ≤ 10 + 32460 * 4 := by rw [hn', List.length_append]; omega
   have hcc := refMayDef_at (d := xs[k]) hq
   unfold defVal at hcc
   have HQ := hid hq; have HR' := hid hR'; have Hn' := hid hn'
   generalize hpre : encB (n : Int) ++ (xs.take k).flatMap dfB = pre at *
   have Hpre := hid hpre
   clear hq HN hfl hel hR' hn' HO hpre
   generalize xs[k] = t at *
   have Hqn := hid (show t.q.length = t.q.length from rfl)
   generalize hql : t.q.length = ql at HQ hcc f2 ⊢
   have Hql := hid hql
   have Hf := hid (And.intro f0 (And.intro f1 f2))
   clear hql
   go_wp2_with fail
   refine hcc.mono ?_
   clear hcc f0 f1 f2
   rintro e w2 ⟨rfl, hE⟩
   have HE2 := hid (HE.out.trans' hE)
   have HEs := hid hE
   clear hE
   by_cases h0 : mayDef t = 0
   rotate_left
   ·have hr := hid (Hbad.out h0)
    clear Hbad Hnx Hfx
    generalize mayDef t = me at *
    have hx : (me != 0) = true := by simpa using h0
    have hx2 : (me == 0) = false := by simpa using h0
    go_wp2
    go_ret2
    refine ⟨_, by rw [hr.out]; rfl, ?_, HE2.out⟩
    intro h
    rw [hr.out] at h
    exact absurd h h0
   ·rw [h0]
    have Hn2 := hid (Hnx.out h0)
    have Hfd := hid (fitD_may h0)
    clear h0 Hbad Hnx
    go_wp2_with fail
    apply wp_drawn_late 22 21 [isV _, isV _, isV _, isV _, isV _, isV _, obX w.heap.size (pre ++ encB t.kind), isV _, isV _, isV _, isV _, isV _, obX w.heap.size (pre ++ (encB t.kind ++ encT t.field)), isV _, isV _, isV _, isV _, isV (.agg #[.slice B1 ql d1]), tupX w.heap.size (pre ++ dfB t), tupX w.heap.size (pre ++ dfB t), obX w.heap.size (pre ++ dfB t), anyV] (by decide) (by kernel_rfl)
    ·kernel_rfl
    ·kernel_rfl
    ·refine ⟨?pds0, ?pds1, ?pds2, ?pds3, ?pds4, ?pds5, ?pds6, ?pds7, ?pds8, ?pds9, ?pds10, ?pds11, ?pds12, ?pds13, ?pds14, ?pds15, ?pds16, ?pds17, ?pds18, ?pds19, ?pds20, ?pds21, trivial⟩
     case pds0 | pds1 | pds2 | pds3 | pds4 =>
      intro v W hE hd; simp only [Region.wanted, ↓reduceIte]; (try simp [deps, waitsOn, Region.binds, knowing, isV, ownsV, anyV] at hd); simp only [putAll, List.take_succ_cons, List.take_zero, List.drop_succ_cons, List.drop_zero, Act.put, List.setIfInBounds_toArray, List.set_cons_zero, List.set_cons_succ, Nat.zero_add, Nat.reduceAdd]; go_simp; exact ⟨Below.refl _ _, rfl⟩
     case pds5 =>
      intro v W hE hd; simp only [Region.wanted, ↓reduceIte]; (try simp [deps, waitsOn, Region.binds, knowing, isV, ownsV, anyV] at hd); simp only [putAll, List.take_succ_cons, List.take_zero, List.drop_succ_cons, List.drop_zero, Act.put, List.setIfInBounds_toArray, List.set_cons_zero, List.set_cons_succ, Nat.zero_add, Nat.reduceAdd]
      have b0 := cell_below (HEs.out.trans' hE) Hf.out.1
      go_simp
      exact ⟨Below.refl _ _, rfl⟩
     case pds6 =>
      intro v W hE hd; simp only [Region.wanted, ↓reduceIte]; (try simp [deps, waitsOn, Region.binds, knowing, isV, ownsV, anyV] at hd); simp only [putAll, List.take_succ_cons, List.take_zero, List.drop_succ_cons, List.drop_zero, Act.put, List.setIfInBounds_toArray, List.set_cons_zero, List.set_cons_succ, Nat.zero_add, Nat.reduceAdd]
      have hcc := refNPut_at Hn'.out hc' (RB.below HR'.out (HEs.out.trans' hE)) (by omega) t.kind (by have := Hfd.out.kind; unfold I64; omega)
      go_simp
      refine hcc.mono ?_
      clear hcc
      rintro e w' ⟨v', rfl, hO, hE2⟩
      have HOo := hid hO; have HEe := hid hE2
      clear hO hE2
      go_simp
      exact ⟨HEe.out, OB.base HOo.out (by have := hE.size; have := HE2.out.size; omega)⟩
     case pds7 | pds8 | pds9 | pds10 =>
      intro v W hE hd; simp only [Region.wanted, ↓reduceIte]; (try simp [deps, waitsOn, Region.binds, knowing, isV, ownsV, anyV] at hd); simp only [putAll, List.take_succ_cons, List.take_zero, List.drop_succ_cons, List.drop_zero, Act.put, List.setIfInBounds_toArray, List.set_cons_zero, List.set_cons_succ, Nat.zero_add, Nat.reduceAdd]; go_simp; exact ⟨Below.refl _ _, rfl⟩
     case pds11 =>
      intro v W hE hd; simp only [Region.wanted, ↓reduceIte]; (try simp [deps, waitsOn, Region.binds, knowing, isV, ownsV, anyV] at hd); simp only [putAll, List.take_succ_cons, List.take_zero, List.drop_succ_cons, List.drop_zero, Act.put, List.setIfInBounds_toArray, List.set_cons_zero, List.set_cons_succ, Nat.zero_add, Nat.reduceAdd]
      have b0 := cell_below (HEs.out.trans' hE) Hf.out.2.1
      go_simp
      exact ⟨Below.refl _ _, rfl⟩
     case pds12 =>
      intro v W hE hd; simp only [Region.wanted, ↓reduceIte]; (try simp [deps, waitsOn, Region.binds, knowing, isV, ownsV, anyV] at hd); simp only [putAll, List.take_succ_cons, List.take_zero, List.drop_succ_cons, List.drop_zero, Act.put, List.setIfInBounds_toArray, List.set_cons_zero, List.set_cons_succ, Nat.zero_add, Nat.reduceAdd]
      obtain ⟨h7, h13, -⟩ := hd
      obtain ⟨A3, n3, c3, e3, hn3, hc3, hr3⟩ := OB.rd (show OB W w.heap.size (v 6) (pre ++ encB t.kind) from h7)
      have hel := encB_len (x := t.kind) (by have := Hfd.out.kind; omega)
      have hl3 : n3 ≤ 200000 := by rw [hn3, List.length_append, ← Hn'.out]; omega
      rw [e3, h13]
      have hcc := refNPutText_at hn3 hc3 hr3 (by omega) t.field (by have := Hfd.out.field; omega)
      rw [List.append_assoc] at hcc
      clear h7 hn3 hr3 hl3 hel
      go_simp
      refine hcc.mono ?_
      clear hcc
      rintro e w' ⟨v', rfl, hO, hE2⟩
      have HOo := hid hO; have HEe := hid hE2
      clear hO hE2
      go_simp
      exact ⟨HEe.out, OB.base HOo.out (by have := hE.size; have := HE2.out.size; omega)⟩
     case pds13 | pds14 | pds15 | pds16 =>
      intro v W hE hd; simp only [Region.wanted, ↓reduceIte]; (try simp [deps, waitsOn, Region.binds, knowing, isV, ownsV, anyV] at hd); simp only [putAll, List.take_succ_cons, List.take_zero, List.drop_succ_cons, List.drop_zero, Act.put, List.setIfInBounds_toArray, List.set_cons_zero, List.set_cons_succ, Nat.zero_add, Nat.reduceAdd]; go_simp; exact ⟨Below.refl _ _, rfl⟩
     case pds17 =>
      intro v W hE hd; simp only [Region.wanted, ↓reduceIte]; (try simp [deps, waitsOn, Region.binds, knowing, isV, ownsV, anyV] at hd); simp only [putAll, List.take_succ_cons, List.take_zero, List.drop_succ_cons, List.drop_zero, Act.put, List.setIfInBounds_toArray, List.set_cons_zero, List.set_cons_succ, Nat.zero_add, Nat.reduceAdd]
      have b0 := cell_below (HEs.out.trans' hE) Hf.out.2.2
      go_simp
      exact ⟨Below.refl _ _, rfl⟩
     case pds18 =>
      intro v W hE hd; simp only [Region.wanted, ↓reduceIte]; (try simp [deps, waitsOn, Region.binds, knowing, isV, ownsV, anyV] at hd); simp only [putAll, List.take_succ_cons, List.take_zero, List.drop_succ_cons, List.drop_zero, Act.put, List.setIfInBounds_toArray, List.set_cons_zero, List.set_cons_succ, Nat.zero_add, Nat.reduceAdd]
      obtain ⟨h7, h13, -⟩ := hd
      obtain ⟨A3, n3, c3, e3, hn3, hc3, hr3⟩ := OB.rd (show OB W w.heap.size (v 12) (pre ++ (encB t.kind ++ encT t.field)) from h7)
      have hel := encB_len (x := t.kind) (by have := Hfd.out.kind; omega)
      have het := encT_len (s := t.field) (by have := Hfd.out.field; omega)
      have hl3 : n3 ≤ 200000 := by rw [hn3, List.length_append, List.length_append, ← Hn'.out]; have := Hfd.out.field; omega
      rw [e3, h13]
      have hcc := refQPut_at hn3 hc3 hr3 (by omega) (HQ.out.grow (HEs.out.trans' hE)) Hfd.out.q
      clear h7 hn3 hr3 hl3 hel het
      go_simp
      refine hcc.mono ?_
      clear hcc
      rintro e w' ⟨v', rfl, hO, hE2⟩
      have HOo := hid (show OB w' W.heap.size v' (pre ++ dfB t) from by have := hO; rwa [show pre ++ (encB t.kind ++ encT t.field) ++ qB t.q = pre ++ dfB t from by unfold dfB; simp only [List.append_assoc]] at this); have HEe := hid hE2
      clear hO hE2
      go_simp
      exact ⟨HEe.out, v', rfl, OB.base HOo.out (by have := hE.size; have := HE2.out.size; omega)⟩
     case pds19 =>
      intro v W hE hd; simp only [Region.wanted, ↓reduceIte]; (try simp [deps, waitsOn, Region.binds, knowing, isV, ownsV, anyV] at hd); simp only [putAll, List.take_succ_cons, List.take_zero, List.drop_succ_cons, List.drop_zero, Act.put, List.setIfInBounds_toArray, List.set_cons_zero, List.set_cons_succ, Nat.zero_add, Nat.reduceAdd]
      go_simp
      exact ⟨Below.refl _ _, (show (tupX w.heap.size (pre ++ dfB t)).p (v 18) W from by first | exact hd | exact hd.1)⟩
     case pds20 =>
      intro v W hE hd; simp only [Region.wanted, ↓reduceIte]; (try simp [deps, waitsOn, Region.binds, knowing, isV, ownsV, anyV] at hd); simp only [putAll, List.take_succ_cons, List.take_zero, List.drop_succ_cons, List.drop_zero, Act.put, List.setIfInBounds_toArray, List.set_cons_zero, List.set_cons_succ, Nat.zero_add, Nat.reduceAdd]
      obtain ⟨v', e5, h5⟩ := (show ∃ v', v 19 = .tuple #[v', .int .i64 0] ∧ OB W w.heap.size v' (pre ++ dfB t) from by first | exact hd | exact hd.1)
      have H5 := hid h5
      rw [e5]
      clear h5
      go_simp
      exact ⟨Below.refl _ _, H5.out⟩
     case pds21 =>
      intro v W hE hd; simp only [Region.wanted, ↓reduceIte]; (try simp [deps, waitsOn, Region.binds, knowing, isV, ownsV, anyV] at hd); simp only [putAll, List.take_succ_cons, List.take_zero, List.drop_succ_cons, List.drop_zero, Act.put, List.setIfInBounds_toArray, List.set_cons_zero, List.set_cons_succ, Nat.zero_add, Nat.reduceAdd]
      obtain ⟨v', e5, h5⟩ := (show ∃ v', v 19 = .tuple #[v', .int .i64 0] ∧ OB W w.heap.size v' (pre ++ dfB t) from by first | exact hd | exact hd.1)
      rw [e5]
      clear h5
      go_simp
      exact ⟨Below.refl _ _, trivial⟩
    ·rintro v W9 hE ⟨-, -, -, -, -, -, -, -, -, -, -, -, -, -, -, -, -, -, -, e19, e20, -, -⟩
     have e19 := (show _ from e19)
     have e20 := (show _ from e20)
     simp only [putAll, List.take_succ_cons, List.take_zero, List.drop_succ_cons, List.drop_zero, Act.put, List.setIfInBounds_toArray, List.set_cons_zero, List.set_cons_succ, Nat.zero_add, Nat.reduceAdd]
     have HOf := hid (show OB W9 w.heap.size (v 20) (encB (n : Int) ++ (xs.take (k + 1)).flatMap dfB) from by rw [Hfx.out, ← List.append_assoc, Hpre.out]; exact e20)
     have HEf := hid (HE2.out.trans' hE)
     obtain ⟨v19, e19', -⟩ := (show ∃ v', v 19 = .tuple #[v', .int .i64 0] ∧ OB W9 w.heap.size v' (pre ++ dfB t) from e19)
     rw [e19']
     clear hE e20 e19 e19'
     go_wp2_with fail
     go_roundw
     case rel => exact ⟨k + 1, by omega, by go_num, HOf, HEf, Hn2⟩
     case measure => simp [intOf]; omega
    ·rintro v W9 om hom hE ⟨-, -, -, -, -, -, -, -, -, -, -, -, -, -, -, -, -, -, -, e19, e20, -, -⟩ hold
     have e19 := (show _ from e19 (by decide))
     have e20 := (show _ from e20 (by decide))
     obtain rfl := Option.some.inj hom
     clear hom hold
     simp only [putAll, List.take_succ_cons, List.take_zero, List.drop_succ_cons, List.drop_zero, Act.put, List.setIfInBounds_toArray, List.set_cons_zero, List.set_cons_succ, Nat.zero_add, Nat.reduceAdd]
     (try simp only [List.cons_append, List.nil_append, List.take_zero, List.take_succ_cons, List.drop_zero, List.drop_succ_cons])
     have HOf := hid (show OB W9 w.heap.size (v 20) (encB (n : Int) ++ (xs.take (k + 1)).flatMap dfB) from by rw [Hfx.out, ← List.append_assoc, Hpre.out]; exact e20)
     have HEf := hid (HE2.out.trans' hE)
     obtain ⟨v19, e19', -⟩ := (show ∃ v', v 19 = .tuple #[v', .int .i64 0] ∧ OB W9 w.heap.size v' (pre ++ dfB t) from e19)
     rw [e19']
     clear hE e20 e19 e19'
     go_wp2_with fail
     go_roundw
     case rel => exact ⟨k + 1, by omega, by go_num, HOf, HEf, Hn2⟩
     case measure => simp [intOf]; omega
  ·obtain rfl : k = n := by omega
   have hlt' : ¬ ((k : Int) < (k : Int)) := by omega
   have hall : ∀ j (h : j < xs.length), mayDef xs[j] = 0 := fun j h => HN.out j (by have := hn.out; omega) h
   have hr := hid (defsE_ok (by have := hn.out; omega) hall)
   have HF := hid (show OB wr w.heap.size u4 (dfsB xs) from by
    have := HO.out
    rw [List.take_of_length_le (by have := hn.out; omega), hn.out] at this
    exact this)
   clear hall HN
   go_wp2
   go_ret2
   exact ⟨_, by rw [hr.out]; rfl, fun _ => HF.out, HE.out⟩
end Go.Proofs.YtakebdeldndaaaaGreatDoor
