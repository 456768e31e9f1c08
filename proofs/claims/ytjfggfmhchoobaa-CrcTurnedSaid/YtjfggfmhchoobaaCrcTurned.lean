/- The walk of the law CrcTurned. -/
import Derived.Test.YtjfggfmhchoobaaCrcXor
import Derived.Test.YtjfggfmhchoobaaCrcTurn
namespace Go.Proofs.Ytjfggfmhchoobaa
open Go Go.RowKit
set_option linter.unusedSimpArgs false
set_option linter.unusedVariables false

theorem any_snoc (l : List UInt8) (c : UInt8) : (l ++ [c]).any (· != 0) = (l.any (· != 0) || (c != 0)) := by simp
theorem byte_ne (c : UInt8) : ((c.toNat : Int) != 0) = (c != 0) := by
  rw [Bool.eq_iff_iff, bne_iff_ne, bne_iff_ne]
  constructor
  · rintro h rfl; exact h rfl
  · intro h e; exact h (UInt8.toNat_inj.1 (by show c.toNat = 0; omega))
theorem OB.readSame {w : World} {base n c : Nat} {A : Option Addr} {bs : List UInt8} (h : OB w base (.slice A n c) bs) : RB w A bs := by
  obtain ⟨A', c', e, -, hr⟩ := RV.own h
  simp only [Value.slice.injEq] at e
  rw [e.1]; exact hr
theorem all_zero_any (l : List UInt8) : decide (∀ c ∈ l, c = 0) = !(l.any (· != 0)) := by
  rw [Bool.eq_iff_iff]; simp

set_option maxRecDepth 100000 in
set_option maxHeartbeats 4000000 in
theorem crcTurned_in (A : Option Addr) (n c : Nat) (bs : List UInt8) (at0 : Int) (x y z u0 : UInt8) (w : World) (i1 : InB w A n c bs) (hat0 : -9223372036854775808 ≤ at0 ∧ at0 ≤ 9223372036854775807) :
    Calls Try.prog 7 #[.slice A n c, .int .i64 at0, .agg #[.int .u8 (x.toNat : Int), .int .u8 (y.toNat : Int), .int .u8 (z.toNat : Int), .int .u8 (u0.toNat : Int)]] w fun e w' => e = .returned (.bool true) ∧ Below w.heap.size w w' := by
  have hz := zero_tab
  obtain ⟨m, s, hm1, Hs, hmc, hl, Hbs, -⟩ := few_in i1.len i1.cap i1.read
  have Hm := hid hm1; clear hm1
  have Hc := hid i1.cap; clear i1
  obtain ⟨N, hN⟩ : ∃ N, N = (Crc.seal_ s).length := ⟨_, rfl⟩
  have hN4 : N = m + 4 := by rw [hN, Crc.seal_length, Hs.out]
  have hNb : N ≤ 504 := by omega
  have hN0 : 4 ≤ N := by omega
  have HN := hid hN; clear hN hN4
  go_enter Try.func7, Try.ntmps7
  go_wp2_with fail
  have hb0 : Below w.heap.size w (w.alloc (.cells #[.int .u8 (x.toNat : Int), .int .u8 (y.toNat : Int), .int .u8 (z.toNat : Int), .int .u8 (u0.toNat : Int)] 39)) := (Below.refl _ _).alloc (Nat.le_refl _) _
  have hws : w.heap.size < (w.alloc (.cells #[.int .u8 (x.toNat : Int), .int .u8 (y.toNat : Int), .int .u8 (z.toNat : Int), .int .u8 (u0.toNat : Int)] 39)).heap.size := by simp
  have hx0 : ∀ k : Nat, ∀ c, [x, y, z, u0][k]? = some c → (w.alloc (.cells #[.int .u8 (x.toNat : Int), .int .u8 (y.toNat : Int), .int .u8 (z.toNat : Int), .int .u8 (u0.toNat : Int)] 39)).cell? ⟨w.heap.size, k, none⟩ = some (.int .u8 (c.toNat : Int)) := by
    intro k c hk
    rw [cell_of_row _ _ _ _ _ _ (heap_alloc_last w _)]
    match k, hk with
    | 0, hk => simp at hk; subst hk; rfl
    | 1, hk => simp at hk; subst hk; rfl
    | 2, hk => simp at hk; subst hk; rfl
    | 3, hk => simp at hk; subst hk; rfl
    | k + 4, hk => simp at hk
  generalize w.alloc (.cells #[.int .u8 (x.toNat : Int), .int .u8 (y.toNat : Int), .int .u8 (z.toNat : Int), .int .u8 (u0.toNat : Int)] 39) = w0 at hb0 hx0 hws ⊢
  have Hb0 := hid hb0; have Hx0 := hid hx0; have Hws0 := hid hws; clear hb0 hx0 hws
  refine (shown_calls _).mono ?_
  rintro e w1 ⟨rfl, hb1⟩
  have HB1 := hid (below_all Hb0.out hb1)
  have Hx1 := hid (fun k c hk => cell_below hb1 (Hx0.out k c hk))
  have Hws1 := hid (Nat.lt_of_lt_of_le Hws0.out hb1.size)
  clear hb1
  go_wp2_with fail
  refine (new_calls _).mono ?_
  rintro e w2 ⟨rfl, hb2⟩
  have Hx2 := hid (fun k c hk => cell_below hb2 (Hx1.out k c hk))
  have Hws2 := hid (Nat.lt_of_lt_of_le Hws1.out hb2.size)
  have HB2 := hid (below_then HB1.out HB1.out.size hb2); clear hb2 HB1
  go_wp2_with (refine wpList_store_tab (w := w2) rfl (.tmp 8) (.tmp 15) rfl rfl rfl ?_)
  have Ht := hid (TabAt.new w2)
  have HB3 := hid (below_tab HB2.out HB2.out.size)
  have Hx3 := hid (fun k c hk => cell_below ((Below.refl _ _).alloc (Nat.le_refl _) (.cells (tabs 256) 27)) (Hx2.out k c hk))
  have Hws := hid (show w.heap.size < (w2.alloc (.cells (tabs 256) 27)).heap.size by have := Hws2.out; simp; omega)
  clear HB2
  generalize hw3 : w2.alloc (.cells (tabs 256) 27) = w3 at Ht HB3 Hx3 Hws ⊢
  have Hw3 := hid hw3; clear hw3
  refine (few_to A n m c _ Hc.out Hm.out).mono ?_
  rintro e w' ⟨rfl, rfl⟩
  go_wp2_with fail
  have hcc := seal_at w2.heap.size A m c s w3 Hs.out (by omega) Ht.out (Hbs.out.below HB3.out)
  refine hcc.mono ?_; clear hcc
  rintro e w4 ⟨v4, rfl, hO4, hB4⟩
  have HBr0 := hid hB4; clear hB4
  obtain ⟨g, c4, rfl, hg1, -, hc4, -⟩ := hO4.cellAt (by rw [← HN.out]; omega)
  have HO4 := hid hO4; clear hO4
  rw [← HN.out] at HO4 hc4 ⊢
  have HBf := hid (below_all HB3.out HBr0.out)
  by_cases hat : at0 < 0
  · go_wp2
    go_ret
    exact ⟨rfl, HBf.out⟩
  have hat' : 0 ≤ at0 := by omega
  by_cases hlt : at0 < (N : Int)
  rotate_left
  · have hge : (N : Int) ≤ at0 := by omega
    go_wp2
    go_ret
    exact ⟨rfl, HBf.out⟩
  obtain ⟨p, rfl⟩ := Int.eq_ofNat_of_zero_le hat'
  have hnge : ¬ ((N : Int) ≤ (p : Int)) := by omega
  have hpN : p < N := by omega
  go_wp2_with fail
  go_loopw [10, 11] (fun t i wr => ∃ k : Nat, k ≤ 4 ∧ p + k ≤ N ∧ i = .int .i64 k ∧ t = .bool (([x, y, z, u0].take k).any (· != 0)) ∧ Hid (OB wr w3.heap.size (.slice (some ⟨g, 0, none⟩) N c4) (Crc.turnAt (Crc.seal_ s) p ([x, y, z, u0].take k))) ∧ Hid (Below w3.heap.size w3 wr)) (fun _ i _ => 4 - (intOf i).toNat)
  case atStart =>
    refine ⟨0, by omega, by omega, rfl, rfl, ?_, HBr0⟩
    rw [List.take_zero, Crc.turnAt_nil _ _ (by rw [← HN.out]; omega)]
    exact HO4
  case round =>
    obtain ⟨k, hk4, hkN, rfl, rfl, Hob, HBr⟩ := hrel
    clear HO4 HBr0 HBf
    obtain ⟨t, ht⟩ : ∃ t, t = (([x, y, z, u0].take k).any (· != 0)) := ⟨_, rfl⟩
    rw [← ht]
    have Ht0 := hid ht; clear ht
    have hkl : ([x, y, z, u0].take k).length = k := by simp; omega
    have Hkl := hid hkl; clear hkl
    have Hlt := hid (show (Crc.turnAt (Crc.seal_ s) p ([x, y, z, u0].take k)).length = N by rw [Crc.turnAt_length _ _ _ (by rw [Hkl.out, ← HN.out]; omega), ← HN.out])
    have Hwr : Hid (IntKind.i64.wrap ((p : Int) + (k : Int)) = (p : Int) + (k : Int)) := by show _ = _; rw [IntKind.wrap_i64]; omega
    have Htn : Hid (((p : Int) + (k : Int)).toNat = p + k) := by show _ = _; omega
    by_cases h4 : k < 4
    rotate_left
    · obtain rfl : k = 4 := by omega
      have hgd : Crc.good (Crc.turnAt (Crc.seal_ s) p ([x, y, z, u0].take 4)) = !t := by
        rw [Crc.good_turn _ _ _ (by rw [Hkl.out, ← HN.out]; omega) (by rw [Hkl.out]; omega), all_zero_any, ← Ht0.out]
      have Hgd := hid hgd; clear hgd
      go_wp2_with fail
      have hcc := open_at w2.heap.size (some ⟨g, 0, none⟩) N c4 _ wr Hlt.out.symm (by omega) hc4 (Ht.out.below HBr.out) (OB.readSame Hob.out)
      refine hcc.mono ?_; clear hcc
      rintro e w5 ⟨⟨v5, rfl, -⟩, hB5⟩
      have HB5 := hid (below_all (below_all HB3.out HBr.out) hB5); clear hB5
      rw [Hgd.out]
      clear Hgd Ht0
      cases t
      all_goals
        simp only [Bool.not_true, Bool.not_false, if_true, Bool.false_eq_true, if_false]
        go_wp2
        go_ret
        exact ⟨rfl, HB5.out⟩
    by_cases hpk : p + k < N
    rotate_left
    · have hpk' : ¬ ((p : Int) + (k : Int) < (N : Int)) := by omega
      have hgd : Crc.good (Crc.turnAt (Crc.seal_ s) p ([x, y, z, u0].take k)) = !t := by
        rw [Crc.good_turn _ _ _ (by rw [Hkl.out, ← HN.out]; omega) (by rw [Hkl.out]; omega), all_zero_any, ← Ht0.out]
      have Hgd := hid hgd; clear hgd
      go_wp2_with fail
      have hcc := open_at w2.heap.size (some ⟨g, 0, none⟩) N c4 _ wr Hlt.out.symm (by omega) hc4 (Ht.out.below HBr.out) (OB.readSame Hob.out)
      refine hcc.mono ?_; clear hcc
      rintro e w5 ⟨⟨v5, rfl, -⟩, hB5⟩
      have HB5 := hid (below_all (below_all HB3.out HBr.out) hB5); clear hB5
      rw [Hgd.out]
      clear Hgd Ht0
      cases t
      all_goals
        simp only [Bool.not_true, Bool.not_false, if_true, Bool.false_eq_true, if_false]
        go_wp2
        go_ret
        exact ⟨rfl, HB5.out⟩
    · have hpk' : (p : Int) + (k : Int) < (N : Int) := by omega
      have hpk0 : (0 : Int) ≤ (p : Int) + (k : Int) := by omega
      obtain ⟨c, hc⟩ : ∃ c, [x, y, z, u0][k]? = some c := ⟨_, List.getElem?_eq_getElem (by simpa using h4)⟩
      have hcc3 := Hx3.out k c hc
      have hcc := (HBr.out.cell (p := ⟨w.heap.size, k, none⟩) Hws.out).trans hcc3
      obtain ⟨g', c', e, -, hg2, -, hcell⟩ := Hob.out.cellAt (by rw [Hlt.out]; omega)
      simp only [Value.slice.injEq, Option.some.injEq, Addr.mk.injEq, and_true] at e
      obtain ⟨rfl, -, rfl⟩ := e
      obtain ⟨hck, hfk⟩ := hcell (p + k) (by rw [Hlt.out]; omega)
      clear hcell
      have hts : [x, y, z, u0].take (k + 1) = [x, y, z, u0].take k ++ [c] := by
        rw [List.take_add_one, hc]; rfl
      have Hset := hid (Crc.turnAt_snoc (Crc.seal_ s) p ([x, y, z, u0].take k) c ((Crc.turnAt (Crc.seal_ s) p ([x, y, z, u0].take k))[p + k]'(by rw [Hlt.out]; omega)) (by rw [Hkl.out, ← HN.out]; omega) (by rw [Hkl.out, List.getElem?_eq_getElem (by rw [Hlt.out]; omega)]))
      generalize (Crc.turnAt (Crc.seal_ s) p ([x, y, z, u0].take k))[p + k]'(by rw [Hlt.out]; omega) = b at hck Hset
      have Hxor := hid (xor_bytes b c)
      have Hts := hid hts; have Hcc := hid hc; clear hts hc
      generalize b ^^^ c = u at Hset Hxor
      have hk0 : (0 : Int) ≤ (k : Int) := by omega
      have hk4' : (k : Int) < 4 := by omega
      go_wp2_with fail
      refine wp_drawn_last 15 [isV (.slice (some ⟨g, 0, none⟩) N c4), isV (.int .i64 (p : Int)), isV (.int .i64 (k : Int)), isV (.int .i64 ((p : Int) + (k : Int))), isV (.slice (some ⟨g, 0, none⟩) N c4), isV (.int .i64 (p : Int)), isV (.int .i64 (k : Int)), isV (.int .i64 ((p : Int) + (k : Int))), isV (.pointer (some ⟨g, p + k, none⟩)), isV (.int .u8 (b.toNat : Int)), isV (.int .i64 (k : Int)), isV (.pointer (some ⟨w.heap.size, k, none⟩)), isV (.int .u8 (c.toNat : Int)), isV (.int .u8 (u.toNat : Int)), isV (.pointer (some ⟨g, p + k, none⟩))] (by decide) (by kernel_rfl) ?r10hok ?r10hcov ?r10steps ?r10fin
      case r10hok => kernel_rfl
      case r10hcov => kernel_rfl
      case r10steps =>
        refine ⟨?r10s0, ?r10s1, ?r10s2, ?r10s3, ?r10s4, ?r10s5, ?r10s6, ?r10s7, ?r10s8, ?r10s9, ?r10s10, ?r10s11, ?r10s12, ?r10s13, ?r10s14, trivial⟩
        case r10s3 =>
          intro v W hE hd; simp only [Region.wanted, ↓reduceIte]; (try simp [deps, waitsOn, Region.binds, knowing, isV, ownsV, anyV] at hd); simp only [putAll, List.take_succ_cons, List.take_zero, List.drop_succ_cons, List.drop_zero, Act.put, List.setIfInBounds_toArray, List.set_cons_zero, List.set_cons_succ, Nat.zero_add, Nat.reduceAdd]
          have e1 := Hwr.out
          go_simp
          exact ⟨Below.refl _ _, rfl⟩
        case r10s7 =>
          intro v W hE hd; simp only [Region.wanted, ↓reduceIte]; (try simp [deps, waitsOn, Region.binds, knowing, isV, ownsV, anyV] at hd); simp only [putAll, List.take_succ_cons, List.take_zero, List.drop_succ_cons, List.drop_zero, Act.put, List.setIfInBounds_toArray, List.set_cons_zero, List.set_cons_succ, Nat.zero_add, Nat.reduceAdd]
          have e1 := Hwr.out
          go_simp
          exact ⟨Below.refl _ _, rfl⟩
        case r10s8 =>
          intro v W hE hd; simp only [Region.wanted, ↓reduceIte]; (try simp [deps, waitsOn, Region.binds, knowing, isV, ownsV, anyV] at hd); simp only [putAll, List.take_succ_cons, List.take_zero, List.drop_succ_cons, List.drop_zero, Act.put, List.setIfInBounds_toArray, List.set_cons_zero, List.set_cons_succ, Nat.zero_add, Nat.reduceAdd]
          have e1 := Htn.out
          go_simp
          exact ⟨Below.refl _ _, rfl⟩
        case r10s9 =>
          intro v W hE hd; simp only [Region.wanted, ↓reduceIte]; (try simp [deps, waitsOn, Region.binds, knowing, isV, ownsV, anyV] at hd); simp only [putAll, List.take_succ_cons, List.take_zero, List.drop_succ_cons, List.drop_zero, Act.put, List.setIfInBounds_toArray, List.set_cons_zero, List.set_cons_succ, Nat.zero_add, Nat.reduceAdd]
          have e1 := cell_below hE hck
          go_simp
          exact ⟨Below.refl _ _, rfl⟩
        case r10s12 =>
          intro v W hE hd; simp only [Region.wanted, ↓reduceIte]; (try simp [deps, waitsOn, Region.binds, knowing, isV, ownsV, anyV] at hd); simp only [putAll, List.take_succ_cons, List.take_zero, List.drop_succ_cons, List.drop_zero, Act.put, List.setIfInBounds_toArray, List.set_cons_zero, List.set_cons_succ, Nat.zero_add, Nat.reduceAdd]
          have e1 := cell_below hE hcc
          go_simp
          exact ⟨Below.refl _ _, rfl⟩
        case r10s13 =>
          intro v W hE hd; simp only [Region.wanted, ↓reduceIte]; (try simp [deps, waitsOn, Region.binds, knowing, isV, ownsV, anyV] at hd); simp only [putAll, List.take_succ_cons, List.take_zero, List.drop_succ_cons, List.drop_zero, Act.put, List.setIfInBounds_toArray, List.set_cons_zero, List.set_cons_succ, Nat.zero_add, Nat.reduceAdd]
          have e1 := Hxor.out
          go_simp
          exact ⟨Below.refl _ _, rfl⟩
        case r10s14 =>
          intro v W hE hd; simp only [Region.wanted, ↓reduceIte]; (try simp [deps, waitsOn, Region.binds, knowing, isV, ownsV, anyV] at hd); simp only [putAll, List.take_succ_cons, List.take_zero, List.drop_succ_cons, List.drop_zero, Act.put, List.setIfInBounds_toArray, List.set_cons_zero, List.set_cons_succ, Nat.zero_add, Nat.reduceAdd]
          have e1 := Htn.out
          go_simp
          exact ⟨Below.refl _ _, rfl⟩
        all_goals (intro v W hE hd; simp only [Region.wanted, ↓reduceIte]; (try simp [deps, waitsOn, Region.binds, knowing, isV, ownsV, anyV] at hd); simp only [putAll, List.take_succ_cons, List.take_zero, List.drop_succ_cons, List.drop_zero, Act.put, List.setIfInBounds_toArray, List.set_cons_zero, List.set_cons_succ, Nat.zero_add, Nat.reduceAdd]; go_simp; exact ⟨Below.refl _ _, rfl⟩)
      case r10fin =>
        rintro v W1 hE hall
        have e13 : v 13 = .int .u8 (u.toNat : Int) := by
          obtain ⟨_, _, _, _, _, _, _, _, _, _, hall⟩ := hall
          obtain ⟨_, _, _, h, _⟩ := hall
          exact h
        have e14 : v 14 = .pointer (some ⟨g, p + k, none⟩) := by
          obtain ⟨_, _, _, _, _, _, _, _, _, _, hall⟩ := hall
          obtain ⟨_, _, _, _, h, _⟩ := hall
          exact h
        simp only [putAll, List.take_succ_cons, List.take_zero, List.drop_succ_cons, List.drop_zero, Act.put, List.setIfInBounds_toArray, List.set_cons_zero, List.set_cons_succ, Nat.zero_add, Nat.reduceAdd]
        rw [e13, e14]
        have hf1 := (hE.frozen (p := ⟨g, p + k, none⟩) hg2).trans hfk
        have hc1 := cell_below hE hck
        have hst := (Hob.out.below hE).stored (by rw [Hlt.out]) (p + k) u
        have Hst := hid hst; clear hst
        have hB2 : Below w3.heap.size w3 (W1.setCell ⟨g, p + k, none⟩ (.int .u8 (u.toNat : Int))) := (below_then HBr.out HBr.out.size hE).setCell hg1 _
        have HB2 := hid hB2
        have hcc2 := (hB2.cell (p := ⟨w.heap.size, k, none⟩) Hws.out).trans hcc3
        clear hall hE e13 e14 hB2 hcc hck
        cases t
        all_goals
          go_wp2_with fail
          go_roundw
          case rel =>
            refine ⟨k + 1, by omega, by omega, by go_num, ?_, ?_, HB2⟩
            · rw [Hts.out, any_snoc, ← Ht0.out]; simp [byte_ne]
            · rw [Hts.out, Hset.out, Hkl.out]; exact Hst.out
          case measure => simp [intOf]; omega
end Go.Proofs.Ytjfggfmhchoobaa
