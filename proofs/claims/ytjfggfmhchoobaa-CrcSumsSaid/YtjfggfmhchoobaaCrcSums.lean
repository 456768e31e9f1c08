/- The walk of the law CrcSums. -/
import Derived.Test.YtjfggfmhchoobaaCrcOpen
import Derived.Test.YtjfggfmhchoobaaOpen
namespace Go.Proofs.Ytjfggfmhchoobaa
open Go Go.RowKit
set_option linter.unusedSimpArgs false
set_option linter.unusedVariables false

theorem refSum_at (A : Option Addr) (n c : Nat) (bs : List UInt8) (w : World) (hn : n = bs.length) (hm : n ≤ 140737488000000) (hb : RB w A bs) :
    Calls Try.prog 21 #[.slice A n c] w fun e w' => e = .returned (.int .u32 ((Crc.sum bs).toNat : Int)) ∧ w = w' := by
  subst hn; exact refSum_calls A c bs w (by omega) hb
theorem refSeal_at (A : Option Addr) (n c : Nat) (bs : List UInt8) (w : World) (hn : n = bs.length) (hm : n ≤ 140737488000000) (hb : RB w A bs) :
    Calls Try.prog 23 #[.slice A n c] w (RetB w (Crc.seal_ bs)) := by
  subst hn; exact refSeal_calls A c bs w hm hb
theorem refOpen_at (A : Option Addr) (n c : Nat) (bs : List UInt8) (w : World) (hn : n = bs.length) (hm : n ≤ 140737488000000) (hc : n ≤ c) (hb : RB w A bs) :
    Calls Try.prog 19 #[.slice A n c] w (RetOpen w bs) := by
  subst hn; exact refOpen_calls A c bs w hm hc hb

set_option maxRecDepth 100000 in
set_option maxHeartbeats 4000000 in
theorem crcSums_in (A : Option Addr) (n c : Nat) (bs : List UInt8) (i : UInt8) (w : World) (i1 : InB w A n c bs) :
    Calls Try.prog 5 #[.slice A n c, .int .u8 (i.toNat : Int)] w fun e w' => e = .returned (.bool true) ∧ Below w.heap.size w w' := by
  have hz := zero_tab
  obtain ⟨m, x, hm1, Hx, hmc, hl, Hbx, -⟩ := few_in i1.len i1.cap i1.read
  have Hm := hid hm1; clear hm1
  have Hc := hid i1.cap; clear i1
  have hi : i.toNat < 256 := i.toNat_lt
  have hi' : (i.toNat : Int) < 256 := by omega
  have hiw : IntKind.i64.wrap (i.toNat : Int) = (i.toNat : Int) := by rw [IntKind.wrap_i64]; omega
  obtain ⟨z, hz'⟩ : ∃ z, z = if Crc.good x then x.take (x.length - 4) else [] := ⟨_, rfl⟩
  obtain ⟨q, hq'⟩ : ∃ q : Int, q = if Crc.good x then 0 else 2 := ⟨_, rfl⟩
  have Hz := hid hz'; have Hq := hid hq'; clear hz' hq'
  go_enter Try.func5, Try.ntmps5
  go_wp2_with fail
  refine (shown_calls _).mono ?_
  rintro e w1 ⟨rfl, hb1⟩
  have HB1 := hid hb1; clear hb1
  go_wp2_with fail
  refine (few_to A n m c _ Hc.out Hm.out).mono ?_
  rintro e w' ⟨rfl, rfl⟩
  go_wp2_with fail
  -- t := crc.New() in a variable of its own: from w1 on
  refine (new_calls _).mono ?_
  rintro e w2 ⟨rfl, hb2⟩
  have HB2 := hid (below_then HB1.out HB1.out.size hb2); clear hb2 HB1
  go_wp2_with (refine wpList_store_tab (w := w2) rfl (.tmp 6) (.tmp 14) rfl rfl rfl ?_)
  have Ht := hid (TabAt.new w2)
  have HB3 := hid (below_tab HB2.out HB2.out.size)
  have hz3 : w.heap.size ≤ w2.heap.size := HB2.out.size
  have Hz3 := hid hz3; clear hz3 HB2
  generalize hw3 : w2.alloc (.cells (tabs 256) 27) = w3 at Ht HB3 ⊢
  have Hw3 := hid hw3; clear hw3
  go_wp2_with fail
  have hcc := open_at w2.heap.size A m c x w3 Hx.out (by omega) hmc Ht.out (Hbx.out.below HB3.out)
  refine hcc.mono ?_; clear hcc
  rintro e w4 ⟨⟨v4, rfl, hO4⟩, hB4⟩
  rw [← Hq.out]
  rw [← Hz.out] at hO4
  have HB4 := hid (below_all HB3.out hB4); have Ht4 := hid (Ht.out.below hB4); clear hB4
  obtain ⟨A4, c4, rfl, hc4, Hr4⟩ := hO4.readAt
  clear hO4
  go_wp2_with fail
  have hcc := refOpen_at A m c x w4 Hx.out (by omega) hmc (Hbx.out.below HB4.out)
  refine hcc.mono ?_; clear hcc
  rintro e w5 ⟨⟨v5, rfl, hO5⟩, hB5'⟩
  rw [← Hq.out]
  rw [← Hz.out] at hO5
  have hB5 := hid hB5'
  have HB5 := hid (below_all HB4.out hB5'); have Ht5 := hid (Ht4.out.below hB5'); clear hB5'
  obtain ⟨A5, c5, rfl, hc5, Hr5⟩ := hO5.readAt
  clear hO5
  go_wp2_with fail
  refine wp_drawn [isV (.bool true), isV (.bool true), isV (.int .u8 (i.toNat : Int)), isV (.pointer (some ⟨w2.heap.size, i.toNat, none⟩)), isV (.int .u32 ((Crc.tab i.toNat).toNat : Int)), isV (.int .u8 (i.toNat : Int)), isV (.int .i64 (i.toNat : Int)), isV (.int .u32 ((Crc.tab i.toNat).toNat : Int)), isV (.bool true), isV (.bool true), isV (.bool true), isV (.slice A m c), isV (.int .u32 ((Crc.sum x).toNat : Int)), isV (.slice A m c), isV (.int .u32 ((Crc.sum x).toNat : Int)), isV (.bool true), isV (.bool true), isV (.bool true), isV (.slice A m c), ownsV w5.heap.size (Crc.seal_ x), isV (.string (str (Crc.seal_ x))), isV (.slice A m c), ownsV w5.heap.size (Crc.seal_ x), isV (.string (str (Crc.seal_ x))), isV (.bool true), isV (.bool true), isV (.bool true), isV (.slice A4 z.length c4), isV (.string (str z)), isV (.slice A5 z.length c5), isV (.string (str z)), isV (.bool true), isV (.bool true), isV (.bool true), isV (.int .i64 q), isV (.int .i64 q), isV (.bool true), isV (.bool true), isV (.bool true)] (by kernel_rfl) ?hok ?steps ?fin
  case hok => kernel_rfl
  case steps =>
    refine ⟨?s0, ?s1, ?s2, ?s3, ?s4, ?s5, ?s6, ?s7, ?s8, ?s9, ?s10, ?s11, ?s12, ?s13, ?s14, ?s15, ?s16, ?s17, ?s18, ?s19, ?s20, ?s21, ?s22, ?s23, ?s24, ?s25, ?s26, ?s27, ?s28, ?s29, ?s30, ?s31, ?s32, ?s33, ?s34, ?s35, ?s36, ?s37, ?s38, trivial⟩
    case s2 =>
      intro v W hE hd; (try simp [deps, waitsOn, Region.binds, knowing, isV, ownsV, anyV] at hd); simp only [putAll, List.dropLast, Act.put, List.setIfInBounds_toArray, List.set_cons_zero, List.set_cons_succ, Nat.zero_add, Nat.reduceAdd]; rw [if_pos (by simp [Region.wanted, yielded, hd])]
      go_simp
      exact ⟨Below.refl _ _, rfl⟩
    case s3 =>
      intro v W hE hd; (try simp [deps, waitsOn, Region.binds, knowing, isV, ownsV, anyV] at hd); simp only [putAll, List.dropLast, Act.put, List.setIfInBounds_toArray, List.set_cons_zero, List.set_cons_succ, Nat.zero_add, Nat.reduceAdd]; rw [if_pos (by simp [Region.wanted, yielded, hd])]
      go_simp
      exact ⟨Below.refl _ _, rfl⟩
    case s4 =>
      intro v W hE hd; (try simp [deps, waitsOn, Region.binds, knowing, isV, ownsV, anyV] at hd); simp only [putAll, List.dropLast, Act.put, List.setIfInBounds_toArray, List.set_cons_zero, List.set_cons_succ, Nat.zero_add, Nat.reduceAdd]; rw [if_pos (by simp [Region.wanted, yielded, hd])]
      have e1 := (Ht5.out.below hE) i.toNat hi
      go_simp
      exact ⟨Below.refl _ _, rfl⟩
    case s5 =>
      intro v W hE hd; (try simp [deps, waitsOn, Region.binds, knowing, isV, ownsV, anyV] at hd); simp only [putAll, List.dropLast, Act.put, List.setIfInBounds_toArray, List.set_cons_zero, List.set_cons_succ, Nat.zero_add, Nat.reduceAdd]; rw [if_pos (by simp [Region.wanted, yielded, hd])]
      go_simp
      exact ⟨Below.refl _ _, rfl⟩
    case s6 =>
      intro v W hE hd; (try simp [deps, waitsOn, Region.binds, knowing, isV, ownsV, anyV] at hd); simp only [putAll, List.dropLast, Act.put, List.setIfInBounds_toArray, List.set_cons_zero, List.set_cons_succ, Nat.zero_add, Nat.reduceAdd]; rw [if_pos (by simp [Region.wanted, yielded, hd])]
      go_simp
      exact ⟨Below.refl _ _, rfl⟩
    case s7 =>
      intro v W hE hd; (try simp [deps, waitsOn, Region.binds, knowing, isV, ownsV, anyV] at hd); simp only [putAll, List.dropLast, Act.put, List.setIfInBounds_toArray, List.set_cons_zero, List.set_cons_succ, Nat.zero_add, Nat.reduceAdd]; rw [if_pos (by simp [Region.wanted, yielded, hd])]
      go_simp
      have hcc := entry_calls (i.toNat : Int) (by omega) (by omega) W
      refine hcc.mono ?_; clear hcc
      rintro e w' ⟨rfl, rfl⟩
      rw [Int.toNat_natCast]
      go_simp
      exact ⟨Below.refl _ _, rfl⟩
    case s8 =>
      intro v W hE hd; (try simp [deps, waitsOn, Region.binds, knowing, isV, ownsV, anyV] at hd); simp only [putAll, List.dropLast, Act.put, List.setIfInBounds_toArray, List.set_cons_zero, List.set_cons_succ, Nat.zero_add, Nat.reduceAdd]; rw [if_pos (by simp [Region.wanted, yielded, hd])]
      go_simp
      exact ⟨Below.refl _ _, rfl⟩
    case s9 =>
      intro v W hE hd; simp only [Region.wanted, ↓reduceIte]; (try simp [deps, waitsOn, Region.binds, knowing, isV, ownsV, anyV] at hd); simp only [putAll, List.dropLast, Act.put, List.setIfInBounds_toArray, List.set_cons_zero, List.set_cons_succ, Nat.zero_add, Nat.reduceAdd]
      go_simp
      exact ⟨Below.refl _ _, rfl⟩
    case s11 =>
      intro v W hE hd; (try simp [deps, waitsOn, Region.binds, knowing, isV, ownsV, anyV] at hd); simp only [putAll, List.dropLast, Act.put, List.setIfInBounds_toArray, List.set_cons_zero, List.set_cons_succ, Nat.zero_add, Nat.reduceAdd]; rw [if_pos (by simp [Region.wanted, yielded, hd])]
      go_simp
      exact ⟨Below.refl _ _, rfl⟩
    case s12 =>
      intro v W hE hd; (try simp [deps, waitsOn, Region.binds, knowing, isV, ownsV, anyV] at hd); simp only [putAll, List.dropLast, Act.put, List.setIfInBounds_toArray, List.set_cons_zero, List.set_cons_succ, Nat.zero_add, Nat.reduceAdd]; rw [if_pos (by simp [Region.wanted, yielded, hd])]
      go_simp
      have hcc := sum_at w2.heap.size A m c x W Hx.out (by omega) (Ht5.out.below hE) (Hbx.out.below (Ext.trans' HB5.out hE))
      refine hcc.mono ?_; clear hcc
      rintro e w' ⟨rfl, rfl⟩
      go_simp
      exact ⟨Below.refl _ _, rfl⟩
    case s13 =>
      intro v W hE hd; (try simp [deps, waitsOn, Region.binds, knowing, isV, ownsV, anyV] at hd); simp only [putAll, List.dropLast, Act.put, List.setIfInBounds_toArray, List.set_cons_zero, List.set_cons_succ, Nat.zero_add, Nat.reduceAdd]; rw [if_pos (by simp [Region.wanted, yielded, hd])]
      go_simp
      exact ⟨Below.refl _ _, rfl⟩
    case s14 =>
      intro v W hE hd; (try simp [deps, waitsOn, Region.binds, knowing, isV, ownsV, anyV] at hd); simp only [putAll, List.dropLast, Act.put, List.setIfInBounds_toArray, List.set_cons_zero, List.set_cons_succ, Nat.zero_add, Nat.reduceAdd]; rw [if_pos (by simp [Region.wanted, yielded, hd])]
      go_simp
      have hcc := refSum_at A m c x W Hx.out (by omega) (Hbx.out.below (Ext.trans' HB5.out hE))
      refine hcc.mono ?_; clear hcc
      rintro e w' ⟨rfl, rfl⟩
      go_simp
      exact ⟨Below.refl _ _, rfl⟩
    case s15 =>
      intro v W hE hd; (try simp [deps, waitsOn, Region.binds, knowing, isV, ownsV, anyV] at hd); simp only [putAll, List.dropLast, Act.put, List.setIfInBounds_toArray, List.set_cons_zero, List.set_cons_succ, Nat.zero_add, Nat.reduceAdd]; rw [if_pos (by simp [Region.wanted, yielded, hd])]
      go_simp
      exact ⟨Below.refl _ _, rfl⟩
    case s16 =>
      intro v W hE hd; simp only [Region.wanted, ↓reduceIte]; (try simp [deps, waitsOn, Region.binds, knowing, isV, ownsV, anyV] at hd); simp only [putAll, List.dropLast, Act.put, List.setIfInBounds_toArray, List.set_cons_zero, List.set_cons_succ, Nat.zero_add, Nat.reduceAdd]
      go_simp
      exact ⟨Below.refl _ _, rfl⟩
    case s18 =>
      intro v W hE hd; (try simp [deps, waitsOn, Region.binds, knowing, isV, ownsV, anyV] at hd); simp only [putAll, List.dropLast, Act.put, List.setIfInBounds_toArray, List.set_cons_zero, List.set_cons_succ, Nat.zero_add, Nat.reduceAdd]; rw [if_pos (by simp [Region.wanted, yielded, hd])]
      go_simp
      exact ⟨Below.refl _ _, rfl⟩
    case s19 =>
      intro v W hE hd; (try simp [deps, waitsOn, Region.binds, knowing, isV, ownsV, anyV] at hd); simp only [putAll, List.dropLast, Act.put, List.setIfInBounds_toArray, List.set_cons_zero, List.set_cons_succ, Nat.zero_add, Nat.reduceAdd]; rw [if_pos (by simp [Region.wanted, yielded, hd])]
      go_simp
      have hcc := seal_at w2.heap.size A m c x W Hx.out (by omega) (Ht5.out.below hE) (Hbx.out.below (Ext.trans' HB5.out hE))
      refine hcc.mono ?_; clear hcc
      rintro e w6 ⟨v6, rfl, hO6, hB6⟩
      have HO := hid hO6; have HB := hid hB6; clear hO6 hB6
      go_simp
      exact ⟨HB.out, HO.out.base hE.size⟩
    case s20 =>
      intro v W hE hd; (try simp [deps, waitsOn, Region.binds, knowing, isV, ownsV, anyV] at hd); simp only [putAll, List.dropLast, Act.put, List.setIfInBounds_toArray, List.set_cons_zero, List.set_cons_succ, Nat.zero_add, Nat.reduceAdd]; rw [if_pos (by simp [Region.wanted, yielded, hd])]
      obtain ⟨hd1, hd2⟩ := hd
      first | (obtain ⟨A6, c6, e6, -, hr6⟩ := OB.read hd1; have e1 := run_str hr6 c6) | (obtain ⟨A6, c6, e6, -, hr6⟩ := OB.read hd2; have e1 := run_str hr6 c6)
      go_simp
      exact ⟨Below.refl _ _, rfl⟩
    case s21 =>
      intro v W hE hd; (try simp [deps, waitsOn, Region.binds, knowing, isV, ownsV, anyV] at hd); simp only [putAll, List.dropLast, Act.put, List.setIfInBounds_toArray, List.set_cons_zero, List.set_cons_succ, Nat.zero_add, Nat.reduceAdd]; rw [if_pos (by simp [Region.wanted, yielded, hd])]
      go_simp
      exact ⟨Below.refl _ _, rfl⟩
    case s22 =>
      intro v W hE hd; (try simp [deps, waitsOn, Region.binds, knowing, isV, ownsV, anyV] at hd); simp only [putAll, List.dropLast, Act.put, List.setIfInBounds_toArray, List.set_cons_zero, List.set_cons_succ, Nat.zero_add, Nat.reduceAdd]; rw [if_pos (by simp [Region.wanted, yielded, hd])]
      go_simp
      have hcc := refSeal_at A m c x W Hx.out (by omega) (Hbx.out.below (Ext.trans' HB5.out hE))
      refine hcc.mono ?_; clear hcc
      rintro e w6 ⟨v6, rfl, hO6, hB6⟩
      have HO := hid hO6; have HB := hid hB6; clear hO6 hB6
      go_simp
      exact ⟨HB.out, HO.out.base hE.size⟩
    case s23 =>
      intro v W hE hd; (try simp [deps, waitsOn, Region.binds, knowing, isV, ownsV, anyV] at hd); simp only [putAll, List.dropLast, Act.put, List.setIfInBounds_toArray, List.set_cons_zero, List.set_cons_succ, Nat.zero_add, Nat.reduceAdd]; rw [if_pos (by simp [Region.wanted, yielded, hd])]
      obtain ⟨hd1, hd2⟩ := hd
      first | (obtain ⟨A6, c6, e6, -, hr6⟩ := OB.read hd1; have e1 := run_str hr6 c6) | (obtain ⟨A6, c6, e6, -, hr6⟩ := OB.read hd2; have e1 := run_str hr6 c6)
      go_simp
      exact ⟨Below.refl _ _, rfl⟩
    case s24 =>
      intro v W hE hd; (try simp [deps, waitsOn, Region.binds, knowing, isV, ownsV, anyV] at hd); simp only [putAll, List.dropLast, Act.put, List.setIfInBounds_toArray, List.set_cons_zero, List.set_cons_succ, Nat.zero_add, Nat.reduceAdd]; rw [if_pos (by simp [Region.wanted, yielded, hd])]
      go_simp
      exact ⟨Below.refl _ _, rfl⟩
    case s25 =>
      intro v W hE hd; simp only [Region.wanted, ↓reduceIte]; (try simp [deps, waitsOn, Region.binds, knowing, isV, ownsV, anyV] at hd); simp only [putAll, List.dropLast, Act.put, List.setIfInBounds_toArray, List.set_cons_zero, List.set_cons_succ, Nat.zero_add, Nat.reduceAdd]
      go_simp
      exact ⟨Below.refl _ _, rfl⟩
    case s27 =>
      intro v W hE hd; (try simp [deps, waitsOn, Region.binds, knowing, isV, ownsV, anyV] at hd); simp only [putAll, List.dropLast, Act.put, List.setIfInBounds_toArray, List.set_cons_zero, List.set_cons_succ, Nat.zero_add, Nat.reduceAdd]; rw [if_pos (by simp [Region.wanted, yielded, hd])]
      go_simp
      exact ⟨Below.refl _ _, rfl⟩
    case s28 =>
      intro v W hE hd; (try simp [deps, waitsOn, Region.binds, knowing, isV, ownsV, anyV] at hd); simp only [putAll, List.dropLast, Act.put, List.setIfInBounds_toArray, List.set_cons_zero, List.set_cons_succ, Nat.zero_add, Nat.reduceAdd]; rw [if_pos (by simp [Region.wanted, yielded, hd])]
      have e1 := run_str (Hr4.out.below (Ext.trans' hB5.out hE)) c4
      go_simp
      exact ⟨Below.refl _ _, rfl⟩
    case s29 =>
      intro v W hE hd; (try simp [deps, waitsOn, Region.binds, knowing, isV, ownsV, anyV] at hd); simp only [putAll, List.dropLast, Act.put, List.setIfInBounds_toArray, List.set_cons_zero, List.set_cons_succ, Nat.zero_add, Nat.reduceAdd]; rw [if_pos (by simp [Region.wanted, yielded, hd])]
      go_simp
      exact ⟨Below.refl _ _, rfl⟩
    case s30 =>
      intro v W hE hd; (try simp [deps, waitsOn, Region.binds, knowing, isV, ownsV, anyV] at hd); simp only [putAll, List.dropLast, Act.put, List.setIfInBounds_toArray, List.set_cons_zero, List.set_cons_succ, Nat.zero_add, Nat.reduceAdd]; rw [if_pos (by simp [Region.wanted, yielded, hd])]
      have e1 := run_str (Hr5.out.below hE) c5
      go_simp
      exact ⟨Below.refl _ _, rfl⟩
    case s31 =>
      intro v W hE hd; (try simp [deps, waitsOn, Region.binds, knowing, isV, ownsV, anyV] at hd); simp only [putAll, List.dropLast, Act.put, List.setIfInBounds_toArray, List.set_cons_zero, List.set_cons_succ, Nat.zero_add, Nat.reduceAdd]; rw [if_pos (by simp [Region.wanted, yielded, hd])]
      go_simp
      exact ⟨Below.refl _ _, rfl⟩
    case s32 =>
      intro v W hE hd; simp only [Region.wanted, ↓reduceIte]; (try simp [deps, waitsOn, Region.binds, knowing, isV, ownsV, anyV] at hd); simp only [putAll, List.dropLast, Act.put, List.setIfInBounds_toArray, List.set_cons_zero, List.set_cons_succ, Nat.zero_add, Nat.reduceAdd]
      go_simp
      exact ⟨Below.refl _ _, rfl⟩
    case s34 =>
      intro v W hE hd; (try simp [deps, waitsOn, Region.binds, knowing, isV, ownsV, anyV] at hd); simp only [putAll, List.dropLast, Act.put, List.setIfInBounds_toArray, List.set_cons_zero, List.set_cons_succ, Nat.zero_add, Nat.reduceAdd]; rw [if_pos (by simp [Region.wanted, yielded, hd])]
      go_simp
      exact ⟨Below.refl _ _, rfl⟩
    case s35 =>
      intro v W hE hd; (try simp [deps, waitsOn, Region.binds, knowing, isV, ownsV, anyV] at hd); simp only [putAll, List.dropLast, Act.put, List.setIfInBounds_toArray, List.set_cons_zero, List.set_cons_succ, Nat.zero_add, Nat.reduceAdd]; rw [if_pos (by simp [Region.wanted, yielded, hd])]
      go_simp
      exact ⟨Below.refl _ _, rfl⟩
    case s36 =>
      intro v W hE hd; (try simp [deps, waitsOn, Region.binds, knowing, isV, ownsV, anyV] at hd); simp only [putAll, List.dropLast, Act.put, List.setIfInBounds_toArray, List.set_cons_zero, List.set_cons_succ, Nat.zero_add, Nat.reduceAdd]; rw [if_pos (by simp [Region.wanted, yielded, hd])]
      go_simp
      exact ⟨Below.refl _ _, rfl⟩
    case s37 =>
      intro v W hE hd; simp only [Region.wanted, ↓reduceIte]; (try simp [deps, waitsOn, Region.binds, knowing, isV, ownsV, anyV] at hd); simp only [putAll, List.dropLast, Act.put, List.setIfInBounds_toArray, List.set_cons_zero, List.set_cons_succ, Nat.zero_add, Nat.reduceAdd]
      go_simp
      exact ⟨Below.refl _ _, rfl⟩
    all_goals (intro v W hE hd; simp only [Region.wanted, ↓reduceIte]; (try simp [deps, waitsOn, Region.binds, knowing, isV, ownsV, anyV] at hd); simp only [putAll, List.dropLast, Act.put, List.setIfInBounds_toArray, List.set_cons_zero, List.set_cons_succ, Nat.zero_add, Nat.reduceAdd]; go_simp; exact ⟨Below.refl _ _, rfl⟩)
  case fin =>
    rintro v W hE hall
    have e38 : v 38 = .bool true := by
      obtain ⟨_, _, _, _, _, _, _, _, _, _, hall⟩ := hall
      obtain ⟨_, _, _, _, _, _, _, _, _, _, hall⟩ := hall
      obtain ⟨_, _, _, _, _, _, _, _, _, _, hall⟩ := hall
      obtain ⟨_, _, _, _, _, _, _, _, h, _⟩ := hall
      exact h
    simp only [putAll, List.dropLast, Act.put, List.setIfInBounds_toArray, List.set_cons_zero, List.set_cons_succ, Nat.zero_add, Nat.reduceAdd]
    rw [e38]
    have HBf := hid (Ext.trans' HB5.out hE)
    clear hall hE e38
    go_wp2
    go_ret
    exact ⟨rfl, HBf.out⟩
end Go.Proofs.Ytjfggfmhchoobaa
