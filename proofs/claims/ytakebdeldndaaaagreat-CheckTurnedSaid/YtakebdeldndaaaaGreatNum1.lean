/- num.Put, num.PutText. -/
import Derived.Test.YtakebdeldndaaaaGreatMake
import Derived.Test.YtakebdeldndaaaaGreatVar
import Derived.Test.YtakebdeldndaaaaGreatOpF
import Derived.Laws.BitsAllLaws
import Derived.Lib.AppendStr
namespace Go.Proofs.YtakebdeldndaaaaGreat
open Go Go.RowKit
set_option linter.unusedSimpArgs false
set_option linter.unusedVariables false

theorem xor_ones {a : Nat} (h : a < 18446744073709551616) : a ^^^ 18446744073709551615 = 18446744073709551615 - a := by
  have e := congrArg BitVec.toNat (BitVec.xor_allOnes (x := BitVec.ofNat 64 a))
  rw [BitVec.toNat_xor, BitVec.toNat_not, BitVec.toNat_allOnes, BitVec.toNat_ofNat, Nat.mod_eq_of_lt h] at e
  exact e
theorem zig_bits {x : Int} (hx : I64 x) : bits .xor .u64 (IntKind.u64.wrap (IntKind.u64.wrap x * 2)) (IntKind.u64.wrap (x / 9223372036854775808)) = ((zig x : Nat) : Int) := by
  unfold I64 at hx
  unfold zig
  have hw : ∀ a : Int, IntKind.u64.wrap a = a % 18446744073709551616 := fun a => IntKind.wrap_u64 a
  simp only [hw]
  by_cases h : 0 ≤ x
  · have e1 : x / 9223372036854775808 % 18446744073709551616 = 0 := by omega
    have e2 : x % 18446744073709551616 * 2 % 18446744073709551616 = 2 * x := by omega
    rw [e1, e2, if_pos h, u64_xor _ _ (by omega) (by omega) (by omega) (by omega)]
    simp
  · have e1 : x / 9223372036854775808 % 18446744073709551616 = 18446744073709551615 := by omega
    have e2 : x % 18446744073709551616 * 2 % 18446744073709551616 = 2 * x + 18446744073709551616 := by omega
    rw [e1, e2, if_neg h, u64_xor _ _ (by omega) (by omega) (by omega) (by omega)]
    have e3 : (18446744073709551615 : Int).toNat = 18446744073709551615 := rfl
    rw [e3, xor_ones (by omega)]
    omega
theorem byte_bits (u : Nat) : IntKind.u8.wrap (u : Int) = ((UInt8.ofNat u).toNat : Int) := by
  rw [IntKind.wrap_u8, UInt8.toNat_ofNat']
  omega
theorem or_bits (u : Nat) : bits .or .u8 (IntKind.u8.wrap (u : Int)) 128 = ((UInt8.ofNat (u % 128 + 128)).toNat : Int) := by
  have hw : IntKind.u8.wrap (u : Int) = (u : Int) % 256 := IntKind.wrap_u8 _
  rw [hw, u8_or _ _ (by omega) (by omega) (by omega) (by omega), UInt8.toNat_ofNat']
  have e1 : ((u : Int) % 256).toNat = u % 256 := by omega
  have e2 : (128 : Int).toNat = 128 := rfl
  rw [e1, e2, or_more _ (Nat.mod_lt _ (by decide))]
  omega
set_option maxRecDepth 100000 in
set_option maxHeartbeats 2000000 in
theorem numPut_at {w : World} {A : Option Addr} {n c : Nat} {bs : List UInt8} (hn : n = bs.length) (hc : n ≤ c) (hr : RB w A bs) (hlen : n ≤ 1000000000) (x : Int) (hx : I64 x) :
    Calls Tryz.prog 24 #[.slice A n c, .int .i64 x] w fun e w' => ∃ v, e = .returned v ∧ OB w' w.heap.size v (bs ++ encB x) ∧ Ext w w' := by
  have Hn := hid hn
  have hE1 := ext_alloc w (.cells (madeCells #[.int .u8 0] (n + 10)) 5)
  have HR1 := hid (RB.below hr hE1)
  have HE1 := hid hE1
  have Hg := hid (heap_alloc_last w (.cells (madeCells #[.int .u8 0] (n + 10)) 5))
  have Hx := hid hx
  clear hE1 hr hn hx
  go_enter Tryz.func24, Tryz.ntmps24
  have hw : IntKind.i64.wrap ((n : Int) + 10) = (n : Int) + 10 := by rw [IntKind.wrap_i64]; omega
  go_wp2_with (first
    | (refine wpList_makeB (w := w) rfl (.tmp 8) (.tmp 11) rfl n (n + 10) rfl ((n : Int) + 10) rfl (by omega) (by omega) (by omega) ?_)
    | (refine wpList_copyB (w0 := w) rfl (.tmp 13) (.tmp 14) rfl w.heap.size n (n + 10) rfl A c bs rfl Hn HR1 _ Hg (size_madeCells _ _) (by omega) (by omega) w.heap.size HE1 (Nat.le_refl _) ?_; intro w2 HO HB))
  have hz := zig_bits Hx.out
  have HZ := hid (zig_lt Hx.out)
  rw [hz]
  clear hz
  go_loopw [5, 6] (fun out uv wr => ∃ (u : Nat) (pre : List UInt8), u < 18446744073709551616 ∧ uv = .int .u64 (u : Int) ∧ Hid (pre ++ varB u = encB x ∧ pre.length ≤ 10) ∧ Hid (OB wr w.heap.size out (bs ++ pre)) ∧ Hid (Ext w wr)) (fun _ uv _ => (intOf uv).toNat)
  case atStart => exact ⟨zig x, [], HZ.out, rfl, hid ⟨rfl, by simp⟩, by rw [List.append_nil]; exact HO, HB⟩
  case round =>
    obtain ⟨u, pre, hu, rfl, HP, HO, HE⟩ := hrel
    have hpl := HP.out.2
    have hel := encB_len Hx.out
    have hbl : bs.length ≤ 1000000000 := by rw [← Hn.out]; exact hlen
    by_cases h128 : (128 : Int) ≤ (u : Int)
    · have hnu : ¬ u < 128 := by omega
      have hb := or_bits u
      have hle := congrArg List.length HP.out.1
      rw [varB_more hnu, List.length_append, List.length_cons] at hle
      have hvp := varB_pos (u / 128)
      have HP2 := hid (show (pre ++ [UInt8.ofNat (u % 128 + 128)]) ++ varB (u / 128) = encB x ∧ (pre ++ [UInt8.ofNat (u % 128 + 128)]).length ≤ 10 from ⟨by rw [← HP.out.1, varB_more hnu, List.append_assoc]; rfl, by rw [List.length_append]; simp only [List.length_cons, List.length_nil]; omega⟩)
      have hsz := HE.out.size
      have HLb := hid (show (bs ++ pre).length < 140737488355328 by rw [List.length_append]; omega)
      clear hle hvp
      go_wp2_with (at_builtin; refine wpList_appB1 (w0 := w) rfl (.tmp 27) (.tmp 31) rfl w.heap.size _ (bs ++ pre) rfl HO HE hsz (UInt8.ofNat (u % 128 + 128)) _ hb rfl HLb.out ?_; intro v2 w2 HO2 HB2 _)
      go_roundw
      case rel => exact ⟨u / 128, _, by omega, by go_num, HP2, by rw [← List.append_assoc]; exact HO2, HB2⟩
      case measure => simp [intOf]; omega
    · have hnu : u < 128 := by omega
      have hb := byte_bits u
      have hsz := HE.out.size
      have HLb := hid (show (bs ++ pre).length < 140737488355328 by rw [List.length_append]; omega)
      have HF := hid (show bs ++ pre ++ [UInt8.ofNat u] = bs ++ encB x by rw [← HP.out.1, varB_one hnu, List.append_assoc])
      go_wp2_with (at_builtin; refine wpList_appB1 (w0 := w) rfl (.tmp 33) (.tmp 36) rfl w.heap.size _ (bs ++ pre) rfl HO HE hsz (UInt8.ofNat u) _ hb rfl HLb.out ?_; intro v2 w2 HO2 HB2 _)
      go_ret
      exact ⟨_, rfl, by have := HO2.out; rw [HF.out] at this; exact this, HB2.out⟩
theorem strCells_str (t : List UInt8) : Go.Lib.strCells (str t) = bvs t := by
  simp only [Go.Lib.strCells, str, bvs]
  rfl
theorem wpList_appStr {w w0 : World} {ops : Array Oper} {rest : List Oper} {o : Oper} {a : Act} {Q : Exit → Act → World → Prop} (hgd : o.guard = none) (s x : Operand) (ho : o.op = .call { callee := .builtin .append, args := #[s, x], argTypes := #[32, 9] })
    (base : Nat) (v : Value) (bs : List UInt8) (hs : a.eval s = v) (hown : Hid (OB w base v bs)) (hB : Hid (Below base w0 w)) (hbase : base ≤ w.heap.size) (t : List UInt8) (hx : a.eval x = .string (str t)) (hmax : bs.length + t.length ≤ 140737488355328)
    (h : ∀ v' w', Hid (OB w' base v' (bs ++ t)) → Hid (Below base w0 w') → wpList Tryz.prog ops Q rest (a.put o.dst v') w') :
    wpList Tryz.prog ops Q (o :: rest) a w := by
  obtain ⟨i, hi, hii⟩ := Option.map_eq_some_iff.1 u8info.hi
  simp only [Prod.mk.injEq] at hii
  obtain ⟨hz0, hz1, hz2⟩ := hii
  refine Go.Lib.wpList_append_own_string w hgd s x 32 9 ho base 5 i u8info.ht Tryz.underlying9 hi hz0 hz1 hz2 v bs.length (bvs bs) hs hown.out (str t) hx (by rw [str_size]; simp only [maxLen]; omega) (by rw [str_size]; exact hmax) hbase ?_
  intro v' w' h1 h2 _
  refine h v' w' ?_ (hB.out.grown h2 hbase fun k hk => own_base hown.out k hk)
  show w'.ownsRow _ _ _ _ _ _
  rw [bvs_append, List.length_append]
  rw [strCells_str, str_size] at h1
  exact h1
set_option maxRecDepth 100000 in
set_option maxHeartbeats 2000000 in
theorem numPutText_at {w : World} {A : Option Addr} {n c : Nat} {bs : List UInt8} (hn : n = bs.length) (hc : n ≤ c) (hr : RB w A bs) (hlen : n ≤ 1000000000) (t : List UInt8) (ht : t.length ≤ 1000000000) :
    Calls Tryz.prog 23 #[.slice A n c, .string (str t)] w fun e w' => ∃ v, e = .returned v ∧ OB w' w.heap.size v (bs ++ encT t) ∧ Ext w w' := by
  have hcc := numPut_at hn hc hr hlen (t.length : Int) (by unfold I64; omega)
  have hsz := str_size t
  have hbl : bs.length ≤ 1000000000 := by omega
  have hel := encB_len (x := (t.length : Int)) (by omega)
  clear hr hn
  go_enter Tryz.func23, Tryz.ntmps23
  go_wp2_with fail
  refine hcc.mono ?_
  clear hcc
  rintro e w1 ⟨v, rfl, hO, hE⟩
  have HO := hid hO; have HE := hid hE
  have hs1 := hE.size
  have HLb := hid (show (bs ++ encB (t.length : Int)).length + t.length ≤ 140737488355328 by rw [List.length_append]; omega)
  clear hO hE
  go_wp2_with (at_builtin; refine wpList_appStr (w0 := w) rfl (.tmp 8) (.tmp 9) rfl w.heap.size _ (bs ++ encB (t.length : Int)) rfl HO HE hs1 t rfl HLb.out ?_; intro v2 w2 HO2 HB2)
  go_ret
  exact ⟨_, rfl, by have := HO2.out; rw [List.append_assoc] at this; exact this, HB2.out⟩
end Go.Proofs.YtakebdeldndaaaaGreat
