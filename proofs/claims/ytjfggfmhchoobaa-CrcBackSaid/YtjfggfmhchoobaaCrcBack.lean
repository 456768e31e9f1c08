/- The walk of the law CrcBack. -/
import Derived.Test.YtjfggfmhchoobaaCrcOpen
import Derived.Test.YtjfggfmhchoobaaOpen
namespace Go.Proofs.Ytjfggfmhchoobaa
open Go Go.RowKit
set_option linter.unusedSimpArgs false
set_option linter.unusedVariables false

set_option maxRecDepth 100000 in
set_option maxHeartbeats 2000000 in
theorem crcBack_walk (A1 : Option Addr) (n1 c1 : Nat) (b1 : List UInt8) (A2 : Option Addr) (n2 c2 : Nat) (b2 : List UInt8) (w : World) (i1 : InB w A1 n1 c1 b1) (i2 : InB w A2 n2 c2 b2) :
    Calls Try.prog 6 #[.slice A1 n1 c1, .slice A2 n2 c2] w fun e w' => e = .returned (.bool true) ∧ Below w.heap.size w w' := by
  have hz := zero_tab
  obtain ⟨m1, x, hm1, Hx, hmc1, hl1, Hbx, -⟩ := few_in i1.len i1.cap i1.read
  obtain ⟨m2, y, hm2, Hy, hmc2, hl2, Hby, -⟩ := few_in i2.len i2.cap i2.read
  have Hm1 := hid hm1; have Hm2 := hid hm2; clear hm1 hm2
  have Hc1 := hid i1.cap; have Hc2 := hid i2.cap; clear i1 i2
  have hs1 : (Crc.seal_ x).length ≤ 504 := by rw [Crc.seal_length, ← Hx.out]; omega
  go_enter Try.func6, Try.ntmps6
  go_wp2_with fail
  refine (shown_calls _).mono ?_
  rintro e w1 ⟨rfl, hb1⟩
  have HB1 := hid hb1; clear hb1
  go_wp2_with fail
  -- t := crc.New() in a variable of its own: from w1 on
  refine (new_calls _).mono ?_
  rintro e w2 ⟨rfl, hb2⟩
  have HB2 := hid (below_then HB1.out HB1.out.size hb2); clear hb2 HB1
  go_wp2_with (refine wpList_store_tab (w := w2) rfl (.tmp 6) (.tmp 12) rfl rfl rfl ?_)
  have Ht := hid (TabAt.new w2)
  have HB3 := hid (below_tab HB2.out HB2.out.size)
  have hz3 : w.heap.size ≤ w2.heap.size := HB2.out.size
  have Hz3 := hid hz3; clear hz3 HB2
  generalize hw3 : w2.alloc (.cells (tabs 256) 27) = w3 at Ht HB3 ⊢
  have Hw3 := hid hw3; clear hw3
  go_wp2_with fail
  refine (few_to A1 n1 m1 c1 _ Hc1.out Hm1.out).mono ?_
  rintro e w' ⟨rfl, rfl⟩
  go_wp2_with fail
  refine (few_to A2 n2 m2 c2 _ Hc2.out Hm2.out).mono ?_
  rintro e w' ⟨rfl, rfl⟩
  go_wp2_with fail
  have hcc := seal_at w2.heap.size A1 m1 c1 x w3 Hx.out (by omega) Ht.out (Hbx.out.below HB3.out)
  refine hcc.mono ?_; clear hcc
  rintro e w4 ⟨v4, rfl, hO4, hB4⟩
  have HB4 := hid (below_all HB3.out hB4); have Ht4 := hid (Ht.out.below hB4); clear hB4
  obtain ⟨A4, c4, rfl, hc4, Hr4⟩ := hO4.readAt
  clear hO4
  go_wp2_with fail
  have hcc := open_at w2.heap.size A4 _ c4 (Crc.seal_ x) w4 rfl (by omega) hc4 Ht4.out Hr4.out
  refine hcc.mono ?_; clear hcc
  intro e w5 hR
  obtain ⟨v5, rfl, hO5, hB5'⟩ := hR.sealed
  have hB5 := hid hB5'
  have HB5 := hid (below_all HB4.out hB5'); have Ht5 := hid (Ht4.out.below hB5'); clear hB5' hR
  obtain ⟨A5, c5, rfl, hc5, Hr5⟩ := hO5.readAt
  clear hO5
  go_wp2_with fail
  refine wp_drawn [isV (.slice A4 (Crc.seal_ x).length c4), isV (.string (str (Crc.seal_ x))), isV (.slice A2 m2 c2), ownsV w5.heap.size (Crc.seal_ y), isV (.string (str (Crc.seal_ y))), isV (.bool (Crc.seal_ x == Crc.seal_ y)), isV (.bool (Crc.seal_ x == Crc.seal_ y))] (by kernel_rfl) ?hok ?steps ?fin
  case hok => kernel_rfl
  case steps =>
    refine ⟨?s0, ?s1, ?s2, ?s3, ?s4, ?s5, ?s6, trivial⟩
    case s1 =>
      intro v W hE hd; simp only [Region.wanted, ↓reduceIte]; (try simp [deps, waitsOn, Region.binds, knowing, isV, ownsV, anyV] at hd); simp only [putAll, List.dropLast, Act.put, List.setIfInBounds_toArray, List.set_cons_zero, List.set_cons_succ, Nat.zero_add, Nat.reduceAdd]
      have e1 := run_str (Hr4.out.below (Ext.trans' hB5.out hE)) c4
      go_simp
      exact ⟨Below.refl _ _, rfl⟩
    case s3 =>
      intro v W hE hd; simp only [Region.wanted, ↓reduceIte]; (try simp [deps, waitsOn, Region.binds, knowing, isV, ownsV, anyV] at hd); simp only [putAll, List.dropLast, Act.put, List.setIfInBounds_toArray, List.set_cons_zero, List.set_cons_succ, Nat.zero_add, Nat.reduceAdd]
      go_simp
      have hcc := seal_at w2.heap.size A2 m2 c2 y W Hy.out (by omega) (Ht5.out.below hE) (Hby.out.below (Ext.trans' HB5.out hE))
      refine hcc.mono ?_; clear hcc
      rintro e w6 ⟨v6, rfl, hO6, hB6⟩
      have HO := hid hO6; have HB := hid hB6; clear hO6 hB6
      go_simp
      exact ⟨HB.out, HO.out.base hE.size⟩
    case s4 =>
      intro v W hE hd; simp only [Region.wanted, ↓reduceIte]; (try simp [deps, waitsOn, Region.binds, knowing, isV, ownsV, anyV] at hd); simp only [putAll, List.dropLast, Act.put, List.setIfInBounds_toArray, List.set_cons_zero, List.set_cons_succ, Nat.zero_add, Nat.reduceAdd]
      obtain ⟨A6, c6, e6, -, hr6⟩ := OB.read hd
      have e1 := run_str hr6 c6
      go_simp
      exact ⟨Below.refl _ _, rfl⟩
    case s5 =>
      intro v W hE hd; simp only [Region.wanted, ↓reduceIte]; (try simp [deps, waitsOn, Region.binds, knowing, isV, ownsV, anyV] at hd); simp only [putAll, List.dropLast, Act.put, List.setIfInBounds_toArray, List.set_cons_zero, List.set_cons_succ, Nat.zero_add, Nat.reduceAdd]
      go_simp
      exact ⟨Below.refl _ _, by simp [str_toList, knowing, isV]⟩
    all_goals (intro v W hE hd; simp only [Region.wanted, ↓reduceIte]; (try simp [deps, waitsOn, Region.binds, knowing, isV, ownsV, anyV] at hd); simp only [putAll, List.dropLast, Act.put, List.setIfInBounds_toArray, List.set_cons_zero, List.set_cons_succ, Nat.zero_add, Nat.reduceAdd]; go_simp; exact ⟨Below.refl _ _, rfl⟩)
  case fin =>
    rintro v W hE ⟨h0, h1, h2, h3, h4, h5, h6, -⟩
    have e5 : v 5 = .bool (Crc.seal_ x == Crc.seal_ y) := h5
    have e6 : v 6 = .bool (Crc.seal_ x == Crc.seal_ y) := h6
    simp only [putAll, List.dropLast, Act.put, List.setIfInBounds_toArray, List.set_cons_zero, List.set_cons_succ, Nat.zero_add, Nat.reduceAdd]
    rw [e6]
    have e1 := run_str (Hr5.out.below hE) c5
    have e2 := run_str_at Hx.out (Hbx.out.below (Ext.trans' HB5.out hE)) c1
    have e3 := run_str_at Hy.out (Hby.out.below (Ext.trans' HB5.out hE)) c2
    have HBf := hid (Ext.trans' HB5.out hE)
    have e7 := str_toList x
    have e8 := str_toList y
    have hq : (Crc.seal_ x == Crc.seal_ y) = (x == y) := by
      by_cases h : x = y
      · subst h; simp
      · have : Crc.seal_ x ≠ Crc.seal_ y := fun e => h (Crc.seal_inj e)
        rw [beq_eq_false_iff_ne.2 h, beq_eq_false_iff_ne.2 this]
    rw [hq]
    clear hE h0 h1 h2 h3 h4 h5 h6 e5 e6 hq
    cases hxy : (x == y)
    all_goals
      go_wp2
      go_ret
      exact ⟨rfl, HBf.out⟩

theorem crcBack_in (A1 : Option Addr) (n1 c1 : Nat) (b1 : List UInt8) (A2 : Option Addr) (n2 c2 : Nat) (b2 : List UInt8) (w : World) (i1 : InB w A1 n1 c1 b1) (i2 : InB w A2 n2 c2 b2) :
    Calls Try.prog 6 #[.slice A1 n1 c1, .slice A2 n2 c2] w fun e w' => e = .returned (.bool true) ∧ Below w.heap.size w w' := crcBack_walk A1 n1 c1 b1 A2 n2 c2 b2 w i1 i2
end Go.Proofs.Ytjfggfmhchoobaa
