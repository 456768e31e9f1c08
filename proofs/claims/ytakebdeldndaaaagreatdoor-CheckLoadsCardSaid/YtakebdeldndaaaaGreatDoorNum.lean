/- Several texts of this claim's, one behind the other. -/
import Derived.Test.YtakebdeldndaaaaGreatDoorFound
import Derived.Laws.CopyOwn
import Derived.Test.YtakebdeldndaaaaGreatDoorEvx
import Derived.Laws.BitsAllLaws
import Derived.Lib.AppendStr
/- Numbers as bytes. Plain. -/
namespace Go.Proofs.YtakebdeldndaaaaGreatDoor
open Go
set_option linter.unusedVariables false
def zig (x : Int) : Nat := if 0 ≤ x then (2 * x).toNat else (-2 * x - 1).toNat
def varB (u : Nat) : List UInt8 := if h : u < 128 then [UInt8.ofNat u] else UInt8.ofNat (u % 128 + 128) :: varB (u / 128)
termination_by u
def encB (x : Int) : List UInt8 := varB (zig x)
theorem varB_one {u : Nat} (h : u < 128) : varB u = [UInt8.ofNat u] := by rw [varB, dif_pos h]
theorem varB_more {u : Nat} (h : ¬ u < 128) : varB u = UInt8.ofNat (u % 128 + 128) :: varB (u / 128) := by rw [varB, dif_neg h]
theorem varB_len : ∀ (k : Nat) (u : Nat), u < 128 ^ (k + 1) → (varB u).length ≤ k + 1
 | 0, u, h => by rw [varB_one (by simpa using h)]; simp
 | k + 1, u, h => by
  by_cases h1 : u < 128
  ·rw [varB_one h1]; simp
  ·rw [varB_more h1, List.length_cons]
   have := varB_len k (u / 128) (by rw [Nat.div_lt_iff_lt_mul (by decide)]; rw [Nat.pow_succ] at h; exact h)
   omega
theorem varB_pos (u : Nat) : 1 ≤ (varB u).length := by
 by_cases h : u < 128
 ·rw [varB_one h]; simp
 ·rw [varB_more h]; simp
theorem zig_lt {x : Int} (h : -9223372036854775808 ≤ x ∧ x ≤ 9223372036854775807) : zig x < 18446744073709551616 := by
 unfold zig; split <;> omega
theorem encB_len {x : Int} (h : -9223372036854775808 ≤ x ∧ x ≤ 9223372036854775807) : (encB x).length ≤ 10 := varB_len 9 _ (Nat.lt_trans (zig_lt h) (by decide))
def encT (s : List UInt8) : List UInt8 := encB (s.length : Int) ++ s
theorem encT_len {s : List UInt8} (h : s.length ≤ 1000000) : (encT s).length ≤ 10 + s.length := by
 have := encB_len (x := (s.length : Int)) (by omega)
 unfold encT
 rw [List.length_append]; omega
set_option maxRecDepth 20000 in
theorem or_more : ∀ a : Nat, a < 256 → a ||| 128 = a % 128 + 128 := by decide
end Go.Proofs.YtakebdeldndaaaaGreatDoor
/- make of bytes, and copy into them. -/
namespace Go.Proofs.YtakebdeldndaaaaGreatDoor
open Go Go.RowKit
set_option linter.unusedVariables false
section
variable {w w0 : World} {ops : Array Oper} {rest : List Oper} {o : Oper} {a : Act} {Q : Exit → Act → World → Prop}
theorem wpList_makeB (hgd : o.guard = none) (l c : Operand) (hop : o.op = .makeSlice 23 l c) (n m : Nat) (hl : a.eval l = .int .i64 (n : Int)) (C : Int) (hc : a.eval c = .int .i64 C) (hC : C = (m : Int)) (hnm : n ≤ m) (hm : m ≤ 281474976710656)
  (h : wpList Tryz.prog ops Q rest (a.put o.dst (.slice (some ⟨w.heap.size, 0, none⟩) n m)) (w.alloc (.cells (madeCells #[.int .u8 0] m) 5))) :
  wpList Tryz.prog ops Q (o :: rest) a w := by
 subst hC
 refine wpList_plain hgd fun K hK => ?_
 obtain ⟨i, hi, hii⟩ := Option.map_eq_some_iff.1 u8info.hi
 simp only [Prod.mk.injEq] at hii
 obtain ⟨hz0, hz1, hz2⟩ := hii
 have hrun := run_make (P := Tryz.prog) w 23 5 i _ u8info.ht hi hz0 .i64 .i64 (n : Int) (m : Int) (by omega) (by omega) (by rw [hz2]; omega) (by omega)
 rw [hz1, Int.toNat_natCast, Int.toNat_natCast, Nat.mul_one] at hrun
 unfold Oper.wp
 simp [execOp, hop, hl, hc, hrun, Result.andThen]
 exact hK _ _ h
theorem wpList_copyB (hgd : o.guard = none) (d s : Operand) (ho : o.op = .call { callee := .builtin .copy, args := #[d, s], argTypes := #[23, 23] })
  (g n m : Nat) (hd : a.eval d = .slice (some ⟨g, 0, none⟩) n m) (A : Option Addr) (c : Nat) (bs : List UInt8) (hs : a.eval s = .slice A n c) (hn : Hid (n = bs.length)) (hr : Hid (RB w A bs))
  (cur : Array Value) (hg : Hid (w.heap[g]? = some (.cells cur 5))) (hcur : cur.size = m) (hnm : n ≤ m) (hm : m ≤ 281474976710656) (base : Nat) (hB : Hid (Below base w0 w)) (hbg : base ≤ g)
  (h : ∀ w', Hid (OB w' base (.slice (some ⟨g, 0, none⟩) n m) bs) → Hid (Below base w0 w') → wpList Tryz.prog ops Q rest (a.put o.dst (goInt (n : Int))) w') :
  wpList Tryz.prog ops Q (o :: rest) a w := by
 obtain rfl : n = bs.length := hn.out
 have hlen : (bvs bs).length = bs.length := bvs_length bs
 have hmin : Nat.min bs.length bs.length = bs.length := Nat.min_self _
 obtain ⟨i, hi, hii⟩ := Option.map_eq_some_iff.1 u8info.hi
 simp only [Prod.mk.injEq] at hii
 have hfit : 0 + (bvs bs).length ≤ cur.toList.length := by
  have hcl : cur.toList.length = m := by rw [← hcur]; exact Array.length_toList
  rw [hlen, hcl]; omega
 refine wpList_copy_splice hgd d s 23 23 ho 5 u8info.ht (by rw [hi]; show some i.size = _; rw [hii.2.1]) (some ⟨g, 0, none⟩) A bs.length m bs.length c hd hs g 0 cur.toList 5 (by rw [Array.toArray_toList]; exact hg.out) (bvs bs) (by rw [hlen, hmin]) (fun hp => ?_) hfit (bvs_one bs) base w0 hB.out hbg ?_
 ·rcases hr.out with h | ⟨b, o', e, h⟩
  ·rw [h] at hp; simp at hp
  ·refine ⟨rfl, ⟨b, o', none⟩, e, fun j v hv => ?_⟩
   have := h j v hv
   rwa [Addr.add_lit]
 ·intro w' hg' hB'
  rw [hlen]
  refine h w' ?_ hB'
  have hsp : (splice cur.toList 0 (bvs bs)).length = m := by
   have hcl : cur.toList.length = m := by rw [← hcur]; exact Array.length_toList
   simp only [splice, List.length_append, List.length_take, List.length_drop, hcl, hlen]; omega
  refine ⟨by rw [hlen, Nat.mul_one], .inr ⟨g, m, (splice cur.toList 0 (bvs bs)).toArray, rfl, hbg, hg'.out, by omega, by simp only [maxLen]; omega, by simpa using hsp, ?_⟩⟩
  simp [splice, hlen]
end
end Go.Proofs.YtakebdeldndaaaaGreatDoor
/- num.Put, num.PutText. -/
namespace Go.Proofs.YtakebdeldndaaaaGreatDoor
open Go Go.RowKit
set_option linter.unusedSimpArgs false
set_option linter.unusedVariables false
theorem xor_ones {a : Nat} (h : a < 18446744073709551616) : a ^^^ 18446744073709551615 = 18446744073709551615 - a := by
 have e := congrArg BitVec.toNat (BitVec.xor_allOnes (x := BitVec.ofNat 64 a))
 rw [BitVec.toNat_xor, BitVec.toNat_not, BitVec.toNat_allOnes, BitVec.toNat_ofNat, Nat.mod_eq_of_lt h] at e
 exact e
theorem zig_bits {x : Int} (hx : I64 x) : bits .xor .u64 (IntKind.u64.wrap (IntKind.u64.wrap x * 2)) (IntKind.u64.wrap (x / 9223372036854775808)) = ((zig x : Nat) : Int) := by
 unfold I64 at hx
 unfold zig
 have hw : ∀ a : Int, IntKind.u64.wrap a = a % 18446744073709551616 := fun a => IntKind.wrap_u64 a
 simp only [hw]
 by_cases h : 0 ≤ x
 ·have e1 : x / 9223372036854775808 % 18446744073709551616 = 0 := by omega
  have e2 : x % 18446744073709551616 * 2 % 18446744073709551616 = 2 * x := by omega
  rw [e1, e2, if_pos h, u64_xor _ _ (by omega) (by omega) (by omega) (by omega)]
  simp
 ·have e1 : x / 9223372036854775808 % 18446744073709551616 = 18446744073709551615 := by omega
  have e2 : x % 18446744073709551616 * 2 % 18446744073709551616 = 2 * x + 18446744073709551616 := by omega
  rw [e1, e2, if_neg h, u64_xor _ _ (by omega) (by omega) (by omega) (by omega)]
  have e3 : (18446744073709551615 : Int).toNat = 18446744073709551615 := rfl
  rw [e3, xor_ones (by omega)]
  omega
theorem byte_bits (u : Nat) : IntKind.u8.wrap (u : Int) = ((UInt8.ofNat u).toNat : Int) := by
 rw [IntKind.wrap_u8, UInt8.toNat_ofNat']
 omega
theorem or_bits (u : Nat) : bits .or .u8 (IntKind.u8.wrap (u : Int)) 128 = ((UInt8.ofNat (u % 128 + 128)).toNat : Int) := by
 have hw : IntKind.u8.wrap (u : Int) = (u : Int) % 256 := IntKind.wrap_u8 _
 rw [hw, u8_or _ _ (by omega) (by omega) (by omega) (by omega), UInt8.toNat_ofNat']
 have e1 : ((u : Int) % 256).toNat = u % 256 := by omega
 have e2 : (128 : Int).toNat = 128 := rfl
 rw [e1, e2, or_more _ (Nat.mod_lt _ (by decide))]
 omega
set_option maxRecDepth 100000 in
set_option maxHeartbeats 2000000 in
theorem numPut_at {w : World} {A : Option Addr} {n c : Nat} {bs : List UInt8} (hn : n = bs.length) (hc : n ≤ c) (hr : RB w A bs) (hlen : n ≤ 1000000000) (x : Int) (hx : I64 x) :
  Calls Tryz.prog 71 #[.slice A n c, .int .i64 x] w fun e w' => ∃ v, e = .returned v ∧ OB w' w.heap.size v (bs ++ encB x) ∧ Ext w w' := by
 have Hn := hid hn
 have hE1 := ext_alloc w (.cells (madeCells #[.int .u8 0] (n + 10)) 5)
 have HR1 := hid (RB.below hr hE1)
 have HE1 := hid hE1
 have Hg := hid (heap_alloc_last w (.cells (madeCells #[.int .u8 0] (n + 10)) 5))
 have Hx := hid hx
 clear hE1 hr hn hx
 go_enter Tryz.func71, Tryz.ntmps71
 have hw : IntKind.i64.wrap ((n : Int) + 10) = (n : Int) + 10 := by rw [IntKind.wrap_i64]; omega
 go_wp2_with (first
  | (refine wpList_makeB (w := w) rfl (.tmp 8) (.tmp 11) rfl n (n + 10) rfl ((n : Int) + 10) rfl (by omega) (by omega) (by omega) ?_)
  | (refine wpList_copyB (w0 := w) rfl (.tmp 13) (.tmp 14) rfl w.heap.size n (n + 10) rfl A c bs rfl Hn HR1 _ Hg (size_madeCells _ _) (by omega) (by omega) w.heap.size HE1 (Nat.le_refl _) ?_; intro w2 HO HB))
 have hz := zig_bits Hx.out
 have HZ := hid (zig_lt Hx.out)
 rw [hz]
 clear hz
 go_loopw [5, 6] (fun out uv wr => ∃ (u : Nat) (pre : List UInt8), u < 18446744073709551616 ∧ uv = .int .u64 (u : Int) ∧ Hid (pre ++ varB u = encB x ∧ pre.length ≤ 10) ∧ Hid (OB wr w.heap.size out (bs ++ pre)) ∧ Hid (Ext w wr)) (fun _ uv _ => (intOf uv).toNat)
 case atStart => exact ⟨zig x, [], HZ.out, rfl, hid ⟨rfl, by simp⟩, by rw [List.append_nil]; exact HO, HB⟩
 case round =>
  obtain ⟨u, pre, hu, rfl, HP, HO, HE⟩ := hrel
  have hpl := HP.out.2
  have hel := encB_len Hx.out
  have hbl : bs.length ≤ 1000000000 := by rw [← Hn.out]; exact hlen
  by_cases h128 : (128 : Int) ≤ (u : Int)
  ·have hnu : ¬ u < 128 := by omega
   have hb := or_bits u
   have hle := congrArg List.length HP.out.1
   rw [varB_more hnu, List.length_append, List.length_cons] at hle
   have hvp := varB_pos (u / 128)
   have HP2 := hid (show (pre ++ [UInt8.ofNat (u % 128 + 128)]) ++ varB (u / 128) = encB x ∧ (pre ++ [UInt8.ofNat (u % 128 + 128)]).length ≤ 10 from ⟨by rw [← HP.out.1, varB_more hnu, List.append_assoc]; rfl, by rw [List.length_append]; simp only [List.length_cons, List.length_nil]; omega⟩)
   have hsz := HE.out.size
   have HLb := hid (show (bs ++ pre).length < 140737488355328 by rw [List.length_append]; omega)
   clear hle hvp
   go_wp2_with (at_builtin; refine wpList_appB1 (w0 := w) rfl (.tmp 27) (.tmp 31) rfl w.heap.size _ (bs ++ pre) rfl HO HE hsz (UInt8.ofNat (u % 128 + 128)) _ hb rfl HLb.out ?_; intro v2 w2 HO2 HB2 _)
   go_roundw
   case rel => exact ⟨u / 128, _, by omega, by go_num, HP2, by rw [← List.append_assoc]; exact HO2, HB2⟩
   case measure => simp [intOf]; omega
  ·have hnu : u < 128 := by omega
   have hb := byte_bits u
   have hsz := HE.out.size
   have HLb := hid (show (bs ++ pre).length < 140737488355328 by rw [List.length_append]; omega)
   have HF := hid (show bs ++ pre ++ [UInt8.ofNat u] = bs ++ encB x by rw [← HP.out.1, varB_one hnu, List.append_assoc])
   go_wp2_with (at_builtin; refine wpList_appB1 (w0 := w) rfl (.tmp 33) (.tmp 36) rfl w.heap.size _ (bs ++ pre) rfl HO HE hsz (UInt8.ofNat u) _ hb rfl HLb.out ?_; intro v2 w2 HO2 HB2 _)
   go_ret
   exact ⟨_, rfl, by have := HO2.out; rw [HF.out] at this; exact this, HB2.out⟩
theorem strCells_str (t : List UInt8) : Go.Lib.strCells (str t) = bvs t := by
 simp only [Go.Lib.strCells, str, bvs]
 rfl
theorem wpList_appStr {w w0 : World} {ops : Array Oper} {rest : List Oper} {o : Oper} {a : Act} {Q : Exit → Act → World → Prop} (hgd : o.guard = none) (s x : Operand) (ho : o.op = .call { callee := .builtin .append, args := #[s, x], argTypes := #[23, 9] })
  (base : Nat) (v : Value) (bs : List UInt8) (hs : a.eval s = v) (hown : Hid (OB w base v bs)) (hB : Hid (Below base w0 w)) (hbase : base ≤ w.heap.size) (t : List UInt8) (hx : a.eval x = .string (str t)) (hmax : bs.length + t.length ≤ 140737488355328)
  (h : ∀ v' w', Hid (OB w' base v' (bs ++ t)) → Hid (Below base w0 w') → wpList Tryz.prog ops Q rest (a.put o.dst v') w') :
  wpList Tryz.prog ops Q (o :: rest) a w := by
 obtain ⟨i, hi, hii⟩ := Option.map_eq_some_iff.1 u8info.hi
 simp only [Prod.mk.injEq] at hii
 obtain ⟨hz0, hz1, hz2⟩ := hii
 refine Go.Lib.wpList_append_own_string w hgd s x 23 9 ho base 5 i u8info.ht Tryz.underlying9 hi hz0 hz1 hz2 v bs.length (bvs bs) hs hown.out (str t) hx (by rw [str_size]; simp only [maxLen]; omega) (by rw [str_size]; exact hmax) hbase ?_
 intro v' w' h1 h2 _
 refine h v' w' ?_ (hB.out.grown h2 hbase fun k hk => own_base hown.out k hk)
 show w'.ownsRow _ _ _ _ _ _
 rw [bvs_append, List.length_append]
 rw [strCells_str, str_size] at h1
 exact h1
set_option maxRecDepth 100000 in
set_option maxHeartbeats 2000000 in
theorem numPutText_at {w : World} {A : Option Addr} {n c : Nat} {bs : List UInt8} (hn : n = bs.length) (hc : n ≤ c) (hr : RB w A bs) (hlen : n ≤ 1000000000) (t : List UInt8) (ht : t.length ≤ 1000000000) :
  Calls Tryz.prog 70 #[.slice A n c, .string (str t)] w fun e w' => ∃ v, e = .returned v ∧ OB w' w.heap.size v (bs ++ encT t) ∧ Ext w w' := by
 have hcc := numPut_at hn hc hr hlen (t.length : Int) (by unfold I64; omega)
 have hsz := str_size t
 have hbl : bs.length ≤ 1000000000 := by omega
 have hel := encB_len (x := (t.length : Int)) (by omega)
 clear hr hn
 go_enter Tryz.func70, Tryz.ntmps70
 go_wp2_with fail
 refine hcc.mono ?_
 clear hcc
 rintro e w1 ⟨v, rfl, hO, hE⟩
 have HO := hid hO; have HE := hid hE
 have hs1 := hE.size
 have HLb := hid (show (bs ++ encB (t.length : Int)).length + t.length ≤ 140737488355328 by rw [List.length_append]; omega)
 clear hO hE
 go_wp2_with (at_builtin; refine wpList_appStr (w0 := w) rfl (.tmp 8) (.tmp 9) rfl w.heap.size _ (bs ++ encB (t.length : Int)) rfl HO HE hs1 t rfl HLb.out ?_; intro v2 w2 HO2 HB2)
 go_ret
 exact ⟨_, rfl, by have := HO2.out; rw [List.append_assoc] at this; exact this, HB2.out⟩
end Go.Proofs.YtakebdeldndaaaaGreatDoor
