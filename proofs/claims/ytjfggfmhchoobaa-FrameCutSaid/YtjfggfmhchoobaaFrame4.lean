/- The walk of the reference's Take (chapter 9). -/
import Derived.Test.YtjfggfmhchoobaaFrame3
import Derived.Test.YtjfggfmhchoobaaCrcXor
namespace Go.Proofs.Ytjfggfmhchoobaa
open Go Go.RowKit
set_option linter.unusedSimpArgs false
set_option linter.unusedVariables false

set_option maxRecDepth 100000 in
set_option maxHeartbeats 2000000 in
theorem refTake_at (A : Option Addr) (n c : Nat) (bs : List UInt8) (w : World) (hn : n = bs.length) (hm : n ≤ 140737488000000) (hc : n ≤ c) (hb : RB w A bs) :
    Calls Try.prog 29 #[.slice A n c] w (RetTake w bs) := by
  have Hn := hid hn; clear hn
  have Hb := hid hb; clear hb
  by_cases h8 : n < 8
  · go_enter Try.func29, Try.ntmps29
    go_wp2
    go_ret2
    refine ⟨Below.refl _ _, ?_⟩
    have : Frm.takeF bs = none := by unfold Frm.takeF; rw [if_pos (by have := Hn.out; omega)]
    rw [this]
    exact rfl
  obtain ⟨N, rfl⟩ : ∃ N, n = N + 8 := ⟨n - 8, by omega⟩
  obtain ⟨g, o, rfl⟩ : ∃ g o, A = some ⟨g, o, none⟩ := by
    obtain ⟨g, o, h, _⟩ := Hb.out.at_ 0 (by have := Hn.out; omega)
    exact ⟨g, o, h⟩
  have hne : ¬ ((N : Int) + 8 < 8) := by omega
  have Hrd := hid (fun (k : Nat) (hk : k < 4) => (by
    obtain ⟨g', o', e, h⟩ := Hb.out.at_ k (by have := Hn.out; omega)
    simp only [Option.some.injEq, Addr.mk.injEq, and_true] at e
    obtain ⟨rfl, rfl⟩ := e
    rw [h, List.getD_eq_getElem?_getD, List.getElem?_eq_getElem (by have := Hn.out; omega)]; rfl : w.cell? ⟨g, o + k, none⟩ = some (.int .u8 ((bs.getD k 0).toNat : Int))))
  obtain ⟨s, hs⟩ : ∃ s, s = Frm.word4 bs := ⟨_, rfl⟩
  have Hs := hid hs; clear hs
  have H0 : Hid (w.cell? ⟨g, o, none⟩ = some (.int .u8 ((bs.getD 0 0).toNat : Int))) := Hrd.out 0 (by omega)
  have H1 := hid (Hrd.out 1 (by omega))
  have H2 := hid (Hrd.out 2 (by omega))
  have H3 := hid (Hrd.out 3 (by omega))
  have Hsum : Hid ((s : Int) = ((bs.getD 0 0).toNat : Int) + 256 * ((bs.getD 1 0).toNat : Int) + 65536 * ((bs.getD 2 0).toNat : Int) + 16777216 * ((bs.getD 3 0).toNat : Int)) := by
    show _ = _; rw [Hs.out]; unfold Frm.word4; omega
  clear Hrd
  generalize bs.getD 0 0 = b0 at H0 Hsum
  generalize bs.getD 1 0 = b1 at H1 Hsum
  generalize bs.getD 2 0 = b2 at H2 Hsum
  generalize bs.getD 3 0 = b3 at H3 Hsum
  have hb0 : b0.toNat < 256 := b0.toNat_lt
  have hb1 : b1.toNat < 256 := b1.toNat_lt
  have hb2 : b2.toNat < 256 := b2.toNat_lt
  have hb3 : b3.toNat < 256 := b3.toNat_lt
  have W0 : Hid (IntKind.i64.wrap ((b0.toNat : Int)) = (b0.toNat : Int)) := by show _ = _; rw [IntKind.wrap_i64]; omega
  have W1 : Hid (IntKind.i64.wrap ((b1.toNat : Int)) = (b1.toNat : Int)) := by show _ = _; rw [IntKind.wrap_i64]; omega
  have W2 : Hid (IntKind.i64.wrap ((b2.toNat : Int)) = (b2.toNat : Int)) := by show _ = _; rw [IntKind.wrap_i64]; omega
  have W3 : Hid (IntKind.i64.wrap ((b3.toNat : Int)) = (b3.toNat : Int)) := by show _ = _; rw [IntKind.wrap_i64]; omega
  have X1 : Hid (IntKind.i64.wrap (256 * (b1.toNat : Int)) = 256 * (b1.toNat : Int)) := by show _ = _; rw [IntKind.wrap_i64]; omega
  have X2 : Hid (IntKind.i64.wrap (65536 * (b2.toNat : Int)) = 65536 * (b2.toNat : Int)) := by show _ = _; rw [IntKind.wrap_i64]; omega
  have X3 : Hid (IntKind.i64.wrap (16777216 * (b3.toNat : Int)) = 16777216 * (b3.toNat : Int)) := by show _ = _; rw [IntKind.wrap_i64]; omega
  have Y1 : Hid (IntKind.i64.wrap ((b0.toNat : Int) + 256 * (b1.toNat : Int)) = (b0.toNat : Int) + 256 * (b1.toNat : Int)) := by show _ = _; rw [IntKind.wrap_i64]; omega
  have Y2 : Hid (IntKind.i64.wrap ((b0.toNat : Int) + 256 * (b1.toNat : Int) + 65536 * (b2.toNat : Int)) = (b0.toNat : Int) + 256 * (b1.toNat : Int) + 65536 * (b2.toNat : Int)) := by show _ = _; rw [IntKind.wrap_i64]; omega
  have Y3 : Hid (IntKind.i64.wrap ((b0.toNat : Int) + 256 * (b1.toNat : Int) + 65536 * (b2.toNat : Int) + 16777216 * (b3.toNat : Int)) = (b0.toNat : Int) + 256 * (b1.toNat : Int) + 65536 * (b2.toNat : Int) + 16777216 * (b3.toNat : Int)) := by show _ = _; rw [IntKind.wrap_i64]; omega
  clear hb0 hb1 hb2 hb3
  have h4 : Hid ((3 : Int) < (N : Int) + 8) := by show _ < _; omega
  go_enter Try.func29, Try.ntmps29
  go_wp2_with fail
  refine wp_drawn [isV (.slice (some ⟨g, o, none⟩) (N + 8) c), isV (.pointer (some ⟨g, o, none⟩)), isV (.int .u8 (b0.toNat : Int)), isV (.int .i64 ((b0.toNat : Int))), isV (.slice (some ⟨g, o, none⟩) (N + 8) c), isV (.pointer (some ⟨g, o + 1, none⟩)), isV (.int .u8 (b1.toNat : Int)), isV (.int .i64 ((b1.toNat : Int))), isV (.int .i64 (256 * (b1.toNat : Int))), isV (.int .i64 ((b0.toNat : Int) + 256 * (b1.toNat : Int))), isV (.slice (some ⟨g, o, none⟩) (N + 8) c), isV (.pointer (some ⟨g, o + 2, none⟩)), isV (.int .u8 (b2.toNat : Int)), isV (.int .i64 ((b2.toNat : Int))), isV (.int .i64 (65536 * (b2.toNat : Int))), isV (.int .i64 ((b0.toNat : Int) + 256 * (b1.toNat : Int) + 65536 * (b2.toNat : Int))), isV (.slice (some ⟨g, o, none⟩) (N + 8) c), isV (.pointer (some ⟨g, o + 3, none⟩)), isV (.int .u8 (b3.toNat : Int)), isV (.int .i64 ((b3.toNat : Int))), isV (.int .i64 (16777216 * (b3.toNat : Int))), isV (.int .i64 ((b0.toNat : Int) + 256 * (b1.toNat : Int) + 65536 * (b2.toNat : Int) + 16777216 * (b3.toNat : Int))), isV (.int .i64 ((b0.toNat : Int) + 256 * (b1.toNat : Int) + 65536 * (b2.toNat : Int) + 16777216 * (b3.toNat : Int)))] (by kernel_rfl) ?r3hok ?r3steps ?r3fin
  case r3hok => kernel_rfl
  case r3steps =>
    refine ⟨?r3s0, ?r3s1, ?r3s2, ?r3s3, ?r3s4, ?r3s5, ?r3s6, ?r3s7, ?r3s8, ?r3s9, ?r3s10, ?r3s11, ?r3s12, ?r3s13, ?r3s14, ?r3s15, ?r3s16, ?r3s17, ?r3s18, ?r3s19, ?r3s20, ?r3s21, ?r3s22, trivial⟩
    case r3s1 =>
      intro v W hE hd; simp only [Region.wanted, ↓reduceIte]; (try simp [deps, waitsOn, Region.binds, knowing, isV, ownsV, anyV] at hd); simp only [putAll, List.take_succ_cons, List.take_zero, List.drop_succ_cons, List.drop_zero, Act.put, List.setIfInBounds_toArray, List.set_cons_zero, List.set_cons_succ, Nat.zero_add, Nat.reduceAdd]
      have e1 : (0 : Int) < (N : Int) + 8 := by omega
      go_simp
      exact ⟨Below.refl _ _, rfl⟩
    case r3s2 =>
      intro v W hE hd; simp only [Region.wanted, ↓reduceIte]; (try simp [deps, waitsOn, Region.binds, knowing, isV, ownsV, anyV] at hd); simp only [putAll, List.take_succ_cons, List.take_zero, List.drop_succ_cons, List.drop_zero, Act.put, List.setIfInBounds_toArray, List.set_cons_zero, List.set_cons_succ, Nat.zero_add, Nat.reduceAdd]
      have e1 := cell_below hE H0.out
      go_simp
      exact ⟨Below.refl _ _, rfl⟩
    case r3s3 =>
      intro v W hE hd; simp only [Region.wanted, ↓reduceIte]; (try simp [deps, waitsOn, Region.binds, knowing, isV, ownsV, anyV] at hd); simp only [putAll, List.take_succ_cons, List.take_zero, List.drop_succ_cons, List.drop_zero, Act.put, List.setIfInBounds_toArray, List.set_cons_zero, List.set_cons_succ, Nat.zero_add, Nat.reduceAdd]
      have e1 := W0.out
      go_simp
      exact ⟨Below.refl _ _, rfl⟩
    case r3s5 =>
      intro v W hE hd; simp only [Region.wanted, ↓reduceIte]; (try simp [deps, waitsOn, Region.binds, knowing, isV, ownsV, anyV] at hd); simp only [putAll, List.take_succ_cons, List.take_zero, List.drop_succ_cons, List.drop_zero, Act.put, List.setIfInBounds_toArray, List.set_cons_zero, List.set_cons_succ, Nat.zero_add, Nat.reduceAdd]
      have e1 : (1 : Int) < (N : Int) + 8 := by omega
      go_simp
      exact ⟨Below.refl _ _, rfl⟩
    case r3s6 =>
      intro v W hE hd; simp only [Region.wanted, ↓reduceIte]; (try simp [deps, waitsOn, Region.binds, knowing, isV, ownsV, anyV] at hd); simp only [putAll, List.take_succ_cons, List.take_zero, List.drop_succ_cons, List.drop_zero, Act.put, List.setIfInBounds_toArray, List.set_cons_zero, List.set_cons_succ, Nat.zero_add, Nat.reduceAdd]
      have e1 := cell_below hE H1.out
      go_simp
      exact ⟨Below.refl _ _, rfl⟩
    case r3s7 =>
      intro v W hE hd; simp only [Region.wanted, ↓reduceIte]; (try simp [deps, waitsOn, Region.binds, knowing, isV, ownsV, anyV] at hd); simp only [putAll, List.take_succ_cons, List.take_zero, List.drop_succ_cons, List.drop_zero, Act.put, List.setIfInBounds_toArray, List.set_cons_zero, List.set_cons_succ, Nat.zero_add, Nat.reduceAdd]
      have e1 := W1.out
      go_simp
      exact ⟨Below.refl _ _, rfl⟩
    case r3s8 =>
      intro v W hE hd; simp only [Region.wanted, ↓reduceIte]; (try simp [deps, waitsOn, Region.binds, knowing, isV, ownsV, anyV] at hd); simp only [putAll, List.take_succ_cons, List.take_zero, List.drop_succ_cons, List.drop_zero, Act.put, List.setIfInBounds_toArray, List.set_cons_zero, List.set_cons_succ, Nat.zero_add, Nat.reduceAdd]
      have e1 := X1.out
      go_simp
      exact ⟨Below.refl _ _, rfl⟩
    case r3s9 =>
      intro v W hE hd; simp only [Region.wanted, ↓reduceIte]; (try simp [deps, waitsOn, Region.binds, knowing, isV, ownsV, anyV] at hd); simp only [putAll, List.take_succ_cons, List.take_zero, List.drop_succ_cons, List.drop_zero, Act.put, List.setIfInBounds_toArray, List.set_cons_zero, List.set_cons_succ, Nat.zero_add, Nat.reduceAdd]
      have e1 := Y1.out
      go_simp
      exact ⟨Below.refl _ _, rfl⟩
    case r3s11 =>
      intro v W hE hd; simp only [Region.wanted, ↓reduceIte]; (try simp [deps, waitsOn, Region.binds, knowing, isV, ownsV, anyV] at hd); simp only [putAll, List.take_succ_cons, List.take_zero, List.drop_succ_cons, List.drop_zero, Act.put, List.setIfInBounds_toArray, List.set_cons_zero, List.set_cons_succ, Nat.zero_add, Nat.reduceAdd]
      have e1 : (2 : Int) < (N : Int) + 8 := by omega
      go_simp
      exact ⟨Below.refl _ _, rfl⟩
    case r3s12 =>
      intro v W hE hd; simp only [Region.wanted, ↓reduceIte]; (try simp [deps, waitsOn, Region.binds, knowing, isV, ownsV, anyV] at hd); simp only [putAll, List.take_succ_cons, List.take_zero, List.drop_succ_cons, List.drop_zero, Act.put, List.setIfInBounds_toArray, List.set_cons_zero, List.set_cons_succ, Nat.zero_add, Nat.reduceAdd]
      have e1 := cell_below hE H2.out
      go_simp
      exact ⟨Below.refl _ _, rfl⟩
    case r3s13 =>
      intro v W hE hd; simp only [Region.wanted, ↓reduceIte]; (try simp [deps, waitsOn, Region.binds, knowing, isV, ownsV, anyV] at hd); simp only [putAll, List.take_succ_cons, List.take_zero, List.drop_succ_cons, List.drop_zero, Act.put, List.setIfInBounds_toArray, List.set_cons_zero, List.set_cons_succ, Nat.zero_add, Nat.reduceAdd]
      have e1 := W2.out
      go_simp
      exact ⟨Below.refl _ _, rfl⟩
    case r3s14 =>
      intro v W hE hd; simp only [Region.wanted, ↓reduceIte]; (try simp [deps, waitsOn, Region.binds, knowing, isV, ownsV, anyV] at hd); simp only [putAll, List.take_succ_cons, List.take_zero, List.drop_succ_cons, List.drop_zero, Act.put, List.setIfInBounds_toArray, List.set_cons_zero, List.set_cons_succ, Nat.zero_add, Nat.reduceAdd]
      have e1 := X2.out
      go_simp
      exact ⟨Below.refl _ _, rfl⟩
    case r3s15 =>
      intro v W hE hd; simp only [Region.wanted, ↓reduceIte]; (try simp [deps, waitsOn, Region.binds, knowing, isV, ownsV, anyV] at hd); simp only [putAll, List.take_succ_cons, List.take_zero, List.drop_succ_cons, List.drop_zero, Act.put, List.setIfInBounds_toArray, List.set_cons_zero, List.set_cons_succ, Nat.zero_add, Nat.reduceAdd]
      have e1 := Y2.out
      go_simp
      exact ⟨Below.refl _ _, rfl⟩
    case r3s17 =>
      intro v W hE hd; simp only [Region.wanted, ↓reduceIte]; (try simp [deps, waitsOn, Region.binds, knowing, isV, ownsV, anyV] at hd); simp only [putAll, List.take_succ_cons, List.take_zero, List.drop_succ_cons, List.drop_zero, Act.put, List.setIfInBounds_toArray, List.set_cons_zero, List.set_cons_succ, Nat.zero_add, Nat.reduceAdd]
      have e1 : (3 : Int) < (N : Int) + 8 := by omega
      go_simp
      exact ⟨Below.refl _ _, rfl⟩
    case r3s18 =>
      intro v W hE hd; simp only [Region.wanted, ↓reduceIte]; (try simp [deps, waitsOn, Region.binds, knowing, isV, ownsV, anyV] at hd); simp only [putAll, List.take_succ_cons, List.take_zero, List.drop_succ_cons, List.drop_zero, Act.put, List.setIfInBounds_toArray, List.set_cons_zero, List.set_cons_succ, Nat.zero_add, Nat.reduceAdd]
      have e1 := cell_below hE H3.out
      go_simp
      exact ⟨Below.refl _ _, rfl⟩
    case r3s19 =>
      intro v W hE hd; simp only [Region.wanted, ↓reduceIte]; (try simp [deps, waitsOn, Region.binds, knowing, isV, ownsV, anyV] at hd); simp only [putAll, List.take_succ_cons, List.take_zero, List.drop_succ_cons, List.drop_zero, Act.put, List.setIfInBounds_toArray, List.set_cons_zero, List.set_cons_succ, Nat.zero_add, Nat.reduceAdd]
      have e1 := W3.out
      go_simp
      exact ⟨Below.refl _ _, rfl⟩
    case r3s20 =>
      intro v W hE hd; simp only [Region.wanted, ↓reduceIte]; (try simp [deps, waitsOn, Region.binds, knowing, isV, ownsV, anyV] at hd); simp only [putAll, List.take_succ_cons, List.take_zero, List.drop_succ_cons, List.drop_zero, Act.put, List.setIfInBounds_toArray, List.set_cons_zero, List.set_cons_succ, Nat.zero_add, Nat.reduceAdd]
      have e1 := X3.out
      go_simp
      exact ⟨Below.refl _ _, rfl⟩
    case r3s21 =>
      intro v W hE hd; simp only [Region.wanted, ↓reduceIte]; (try simp [deps, waitsOn, Region.binds, knowing, isV, ownsV, anyV] at hd); simp only [putAll, List.take_succ_cons, List.take_zero, List.drop_succ_cons, List.drop_zero, Act.put, List.setIfInBounds_toArray, List.set_cons_zero, List.set_cons_succ, Nat.zero_add, Nat.reduceAdd]
      have e1 := Y3.out
      go_simp
      exact ⟨Below.refl _ _, rfl⟩
    all_goals (intro v W hE hd; simp only [Region.wanted, ↓reduceIte]; (try simp [deps, waitsOn, Region.binds, knowing, isV, ownsV, anyV] at hd); simp only [putAll, List.take_succ_cons, List.take_zero, List.drop_succ_cons, List.drop_zero, Act.put, List.setIfInBounds_toArray, List.set_cons_zero, List.set_cons_succ, Nat.zero_add, Nat.reduceAdd]; go_simp; exact ⟨Below.refl _ _, rfl⟩)
  case r3fin =>
    rintro v w1 hE hall
    have e22 : v 22 = .int .i64 ((b0.toNat : Int) + 256 * (b1.toNat : Int) + 65536 * (b2.toNat : Int) + 16777216 * (b3.toNat : Int)) := by
      obtain ⟨_, _, _, _, _, _, _, _, _, _, _, _, _, _, _, _, _, _, _, _, _, _, h, _⟩ := hall
      exact h
    simp only [putAll, List.take_succ_cons, List.take_zero, List.drop_succ_cons, List.drop_zero, Act.put, List.setIfInBounds_toArray, List.set_cons_zero, List.set_cons_succ, Nat.zero_add, Nat.reduceAdd]
    rw [e22, ← Hsum.out]
    clear e22 hall
    have HE := hid hE; clear hE
    by_cases hbig : 16384 < s
    · have Hnone : Hid (Frm.takeF bs = none) := take_big Hn.out Hs.out hbig
      have hbig' : (16384 : Int) < (s : Int) := by omega
      go_wp2
      go_ret2
      refine ⟨HE.out, ?_⟩
      rw [Hnone.out]
      exact rfl
    have hsb : s ≤ 16384 := by omega
    have hsb' : ¬ ((16384 : Int) < (s : Int)) := by omega
    by_cases hsn : N < s
    · have Hnone : Hid (Frm.takeF bs = none) := take_long Hn.out Hs.out hsn
      have hsn' : (N : Int) < (s : Int) := by omega
      go_wp2
      go_ret2
      refine ⟨HE.out, ?_⟩
      rw [Hnone.out]
      exact rfl
    have hsn' : s ≤ N := by omega
    have hsn2 : ¬ ((N : Int) < (s : Int)) := by omega
    have Helse := hid (take_else Hn.out Hs.out hsn' hsb)
    obtain ⟨x, hx⟩ : ∃ x, x = (bs.drop 8).take s := ⟨_, rfl⟩
    rw [← hx] at Helse
    have Hx := hid hx
    have Hxl := hid (show s = x.length by rw [hx, List.length_take, List.length_drop, ← Hn.out]; omega)
    have Hend := hid (show 8 + s = (bs.take (8 + s)).length by rw [List.length_take, ← Hn.out]; omega)
    have hEs : Hid ((8 + (s : Int)).toNat = 8 + s) := by show _ = _; omega
    have Hpre := hid ((Hb.out.take (8 + s)).below HE.out)
    have H1a : Hid (Below w1.heap.size w1 (w1.alloc (.cells #[] 5))) := (Below.refl _ _).alloc (Nat.le_refl _) _
    clear hbig hsn H0 H1 H2 H3 W0 W1 W2 W3 X1 X2 X3 Y1 Y2 Y3 Hs Hsum
    by_cases hc8 : 8 < c
    · have Hrx := hid (((show RB w (some ⟨g, o + 8, none⟩) x by rw [hx]; exact (Hb.out.drop 8).take s).below HE.out).below H1a.out)
      clear hx
      go_wp2_with (at_builtin; refine wpList_appB (w0 := w1) rfl (.tmp 42) (.tmp 46) rfl w1.heap.size _ [] rfl (OB_empty w1 _ (Nat.le_refl _)) H1a H1a.out.size (some ⟨g, o + 8, none⟩) (c - 8) s x (by show Value.slice _ (8 + s - 8) _ = _; rw [Nat.add_sub_cancel_left]) Hxl Hrx (by show 0 + s ≤ _; omega) ?_; intro v2 w2 Hob2 Hbel2 _)
      have HB2 := hid (below_all HE.out Hbel2.out)
      have Hob2' : Hid (OB w2 w1.heap.size v2 x) := Hob2
      clear Hob2
      have Hpre2 := hid (Hpre.out.below Hbel2.out)
      obtain ⟨A2, c2, rfl, hc2, Hr2⟩ := Hob2'.out.readAt
      rw [← Hxl.out] at Hob2' hc2 ⊢
      have hcc := refPut_at A2 s c2 x w2 Hxl.out hsb Hr2.out
      refine hcc.mono ?_; clear hcc
      rintro e w3 ⟨v3, rfl, hO3, hB3⟩
      have HB3 := hid hB3; clear hB3
      obtain ⟨A3, c3, rfl, hc3, Hr3⟩ := hO3.readAt
      clear hO3
      have Hpre3 := hid (Hpre2.out.below HB3.out)
      go_wp2_with fail
      refine wp_drawn [isV (.slice A3 (Frm.frm x).length c3), isV (.string (str (Frm.frm x))), isV (.slice (some ⟨g, o, none⟩) (N + 8) c), isV (.int .i64 (s : Int)), isV (.int .i64 (8 + (s : Int))), isV (.slice (some ⟨g, o, none⟩) (8 + s) c), isV (.string (str (bs.take (8 + s)))), isV (.bool (!(Frm.frm x == bs.take (8 + s))))] (by kernel_rfl) ?rahok ?rasteps ?rafin
      case rahok => kernel_rfl
      case rasteps =>
        refine ⟨?ras0, ?ras1, ?ras2, ?ras3, ?ras4, ?ras5, ?ras6, ?ras7, trivial⟩
        case ras1 =>
          intro v W hE hd; simp only [Region.wanted, ↓reduceIte]; (try simp [deps, waitsOn, Region.binds, knowing, isV, ownsV, anyV] at hd); simp only [putAll, List.take_succ_cons, List.take_zero, List.drop_succ_cons, List.drop_zero, Act.put, List.setIfInBounds_toArray, List.set_cons_zero, List.set_cons_succ, Nat.zero_add, Nat.reduceAdd]
          have e1 := run_str (Hr3.out.below hE) c3
          go_simp
          exact ⟨Below.refl _ _, rfl⟩
        case ras4 =>
          intro v W hE hd; simp only [Region.wanted, ↓reduceIte]; (try simp [deps, waitsOn, Region.binds, knowing, isV, ownsV, anyV] at hd); simp only [putAll, List.take_succ_cons, List.take_zero, List.drop_succ_cons, List.drop_zero, Act.put, List.setIfInBounds_toArray, List.set_cons_zero, List.set_cons_succ, Nat.zero_add, Nat.reduceAdd]
          have e1 : IntKind.i64.wrap (8 + (s : Int)) = 8 + (s : Int) := by rw [IntKind.wrap_i64]; omega
          go_simp
          exact ⟨Below.refl _ _, rfl⟩
        case ras5 =>
          intro v W hE hd; simp only [Region.wanted, ↓reduceIte]; (try simp [deps, waitsOn, Region.binds, knowing, isV, ownsV, anyV] at hd); simp only [putAll, List.take_succ_cons, List.take_zero, List.drop_succ_cons, List.drop_zero, Act.put, List.setIfInBounds_toArray, List.set_cons_zero, List.set_cons_succ, Nat.zero_add, Nat.reduceAdd]
          have e1 := hEs.out
          have e2 : (0 : Int) ≤ 8 + (s : Int) := by omega
          have e3 : 8 + (s : Int) ≤ (c : Int) := by omega
          go_simp
          exact ⟨Below.refl _ _, rfl⟩
        case ras6 =>
          intro v W hE hd; simp only [Region.wanted, ↓reduceIte]; (try simp [deps, waitsOn, Region.binds, knowing, isV, ownsV, anyV] at hd); simp only [putAll, List.take_succ_cons, List.take_zero, List.drop_succ_cons, List.drop_zero, Act.put, List.setIfInBounds_toArray, List.set_cons_zero, List.set_cons_succ, Nat.zero_add, Nat.reduceAdd]
          have e1 := run_str_at Hend.out (Hpre3.out.below hE) c
          go_simp
          exact ⟨Below.refl _ _, rfl⟩
        case ras7 =>
          intro v W hE hd; simp only [Region.wanted, ↓reduceIte]; (try simp [deps, waitsOn, Region.binds, knowing, isV, ownsV, anyV] at hd); simp only [putAll, List.take_succ_cons, List.take_zero, List.drop_succ_cons, List.drop_zero, Act.put, List.setIfInBounds_toArray, List.set_cons_zero, List.set_cons_succ, Nat.zero_add, Nat.reduceAdd]
          go_simp
          exact ⟨Below.refl _ _, by simp [str_toList, knowing, isV, bne]⟩
        all_goals (intro v W hE hd; simp only [Region.wanted, ↓reduceIte]; (try simp [deps, waitsOn, Region.binds, knowing, isV, ownsV, anyV] at hd); simp only [putAll, List.take_succ_cons, List.take_zero, List.drop_succ_cons, List.drop_zero, Act.put, List.setIfInBounds_toArray, List.set_cons_zero, List.set_cons_succ, Nat.zero_add, Nat.reduceAdd]; go_simp; exact ⟨Below.refl _ _, rfl⟩)
      case rafin =>
        rintro v' w4 hE hall
        have e7 : v' 7 = .bool (!(Frm.frm x == bs.take (8 + s))) := by
          obtain ⟨_, _, _, _, _, _, _, h, _⟩ := hall
          exact h
        simp only [putAll, List.take_succ_cons, List.take_zero, List.drop_succ_cons, List.drop_zero, Act.put, List.setIfInBounds_toArray, List.set_cons_zero, List.set_cons_succ, Nat.zero_add, Nat.reduceAdd]
        rw [e7]
        have HE4 := hid (below_all (below_all HB2.out HB3.out) hE)
        have Hob4 := hid ((Hob2'.out.below HB3.out).below hE)
        clear hall e7 hE
        cases hq : (Frm.frm x == bs.take (8 + s))
        · rw [hq] at Helse
          have Hnone : Hid (Frm.takeF bs = none) := Helse.out
          clear hq Helse
          go_wp2
          go_ret2
          refine ⟨HE4.out, ?_⟩
          rw [Hnone.out]
          exact rfl
        rw [hq] at Helse
        have Hsome : Hid (Frm.takeF bs = some x) := Helse.out
        clear hq Helse
        go_wp2
        go_ret2
        refine ⟨HE4.out, ?_⟩
        rw [Hsome.out]
        refine ⟨_, by rw [← Hxl.out]; rfl, Hob4.out.base HE.out.size⟩
    · obtain rfl : c = 8 := by omega
      have Hrx := hid (show RB (w1.alloc (.cells #[] 5)) (some ⟨g, o, none⟩) x by rw [hx, show s = 0 by omega]; exact RB.nil _ _)
      clear hx
      go_wp2_with (at_builtin; refine wpList_appB (w0 := w1) rfl (.tmp 42) (.tmp 46) rfl w1.heap.size _ [] rfl (OB_empty w1 _ (Nat.le_refl _)) H1a H1a.out.size (some ⟨g, o, none⟩) 0 s x (by show Value.slice _ (8 + s - 8) _ = _; rw [Nat.add_sub_cancel_left]) Hxl Hrx (by show 0 + s ≤ _; omega) ?_; intro v2 w2 Hob2 Hbel2 _)
      have HB2 := hid (below_all HE.out Hbel2.out)
      have Hob2' : Hid (OB w2 w1.heap.size v2 x) := Hob2
      clear Hob2
      have Hpre2 := hid (Hpre.out.below Hbel2.out)
      obtain ⟨A2, c2, rfl, hc2, Hr2⟩ := Hob2'.out.readAt
      rw [← Hxl.out] at Hob2' hc2 ⊢
      have hcc := refPut_at A2 s c2 x w2 Hxl.out hsb Hr2.out
      refine hcc.mono ?_; clear hcc
      rintro e w3 ⟨v3, rfl, hO3, hB3⟩
      have HB3 := hid hB3; clear hB3
      obtain ⟨A3, c3, rfl, hc3, Hr3⟩ := hO3.readAt
      clear hO3
      have Hpre3 := hid (Hpre2.out.below HB3.out)
      go_wp2_with fail
      refine wp_drawn [isV (.slice A3 (Frm.frm x).length c3), isV (.string (str (Frm.frm x))), isV (.slice (some ⟨g, o, none⟩) (N + 8) 8), isV (.int .i64 (s : Int)), isV (.int .i64 (8 + (s : Int))), isV (.slice (some ⟨g, o, none⟩) (8 + s) 8), isV (.string (str (bs.take (8 + s)))), isV (.bool (!(Frm.frm x == bs.take (8 + s))))] (by kernel_rfl) ?rbhok ?rbsteps ?rbfin
      case rbhok => kernel_rfl
      case rbsteps =>
        refine ⟨?rbs0, ?rbs1, ?rbs2, ?rbs3, ?rbs4, ?rbs5, ?rbs6, ?rbs7, trivial⟩
        case rbs1 =>
          intro v W hE hd; simp only [Region.wanted, ↓reduceIte]; (try simp [deps, waitsOn, Region.binds, knowing, isV, ownsV, anyV] at hd); simp only [putAll, List.take_succ_cons, List.take_zero, List.drop_succ_cons, List.drop_zero, Act.put, List.setIfInBounds_toArray, List.set_cons_zero, List.set_cons_succ, Nat.zero_add, Nat.reduceAdd]
          have e1 := run_str (Hr3.out.below hE) c3
          go_simp
          exact ⟨Below.refl _ _, rfl⟩
        case rbs4 =>
          intro v W hE hd; simp only [Region.wanted, ↓reduceIte]; (try simp [deps, waitsOn, Region.binds, knowing, isV, ownsV, anyV] at hd); simp only [putAll, List.take_succ_cons, List.take_zero, List.drop_succ_cons, List.drop_zero, Act.put, List.setIfInBounds_toArray, List.set_cons_zero, List.set_cons_succ, Nat.zero_add, Nat.reduceAdd]
          have e1 : IntKind.i64.wrap (8 + (s : Int)) = 8 + (s : Int) := by rw [IntKind.wrap_i64]; omega
          go_simp
          exact ⟨Below.refl _ _, rfl⟩
        case rbs5 =>
          intro v W hE hd; simp only [Region.wanted, ↓reduceIte]; (try simp [deps, waitsOn, Region.binds, knowing, isV, ownsV, anyV] at hd); simp only [putAll, List.take_succ_cons, List.take_zero, List.drop_succ_cons, List.drop_zero, Act.put, List.setIfInBounds_toArray, List.set_cons_zero, List.set_cons_succ, Nat.zero_add, Nat.reduceAdd]
          have e1 := hEs.out
          have e2 : (0 : Int) ≤ 8 + (s : Int) := by omega
          have e3 : 8 + (s : Int) ≤ (8 : Int) := by omega
          go_simp
          exact ⟨Below.refl _ _, rfl⟩
        case rbs6 =>
          intro v W hE hd; simp only [Region.wanted, ↓reduceIte]; (try simp [deps, waitsOn, Region.binds, knowing, isV, ownsV, anyV] at hd); simp only [putAll, List.take_succ_cons, List.take_zero, List.drop_succ_cons, List.drop_zero, Act.put, List.setIfInBounds_toArray, List.set_cons_zero, List.set_cons_succ, Nat.zero_add, Nat.reduceAdd]
          have e1 := run_str_at Hend.out (Hpre3.out.below hE) 8
          go_simp
          exact ⟨Below.refl _ _, rfl⟩
        case rbs7 =>
          intro v W hE hd; simp only [Region.wanted, ↓reduceIte]; (try simp [deps, waitsOn, Region.binds, knowing, isV, ownsV, anyV] at hd); simp only [putAll, List.take_succ_cons, List.take_zero, List.drop_succ_cons, List.drop_zero, Act.put, List.setIfInBounds_toArray, List.set_cons_zero, List.set_cons_succ, Nat.zero_add, Nat.reduceAdd]
          go_simp
          exact ⟨Below.refl _ _, by simp [str_toList, knowing, isV, bne]⟩
        all_goals (intro v W hE hd; simp only [Region.wanted, ↓reduceIte]; (try simp [deps, waitsOn, Region.binds, knowing, isV, ownsV, anyV] at hd); simp only [putAll, List.take_succ_cons, List.take_zero, List.drop_succ_cons, List.drop_zero, Act.put, List.setIfInBounds_toArray, List.set_cons_zero, List.set_cons_succ, Nat.zero_add, Nat.reduceAdd]; go_simp; exact ⟨Below.refl _ _, rfl⟩)
      case rbfin =>
        rintro v' w4 hE hall
        have e7 : v' 7 = .bool (!(Frm.frm x == bs.take (8 + s))) := by
          obtain ⟨_, _, _, _, _, _, _, h, _⟩ := hall
          exact h
        simp only [putAll, List.take_succ_cons, List.take_zero, List.drop_succ_cons, List.drop_zero, Act.put, List.setIfInBounds_toArray, List.set_cons_zero, List.set_cons_succ, Nat.zero_add, Nat.reduceAdd]
        rw [e7]
        have HE4 := hid (below_all (below_all HB2.out HB3.out) hE)
        have Hob4 := hid ((Hob2'.out.below HB3.out).below hE)
        clear hall e7 hE
        cases hq : (Frm.frm x == bs.take (8 + s))
        · rw [hq] at Helse
          have Hnone : Hid (Frm.takeF bs = none) := Helse.out
          clear hq Helse
          go_wp2
          go_ret2
          refine ⟨HE4.out, ?_⟩
          rw [Hnone.out]
          exact rfl
        rw [hq] at Helse
        have Hsome : Hid (Frm.takeF bs = some x) := Helse.out
        clear hq Helse
        go_wp2
        go_ret2
        refine ⟨HE4.out, ?_⟩
        rw [Hsome.out]
        refine ⟨_, by rw [← Hxl.out]; rfl, Hob4.out.base HE.out.size⟩
end Go.Proofs.Ytjfggfmhchoobaa
