/- The walk of the law CrcParts. -/
import Derived.Test.YtjfggfmhchoobaaCrcXor
import Derived.Test.YtjfggfmhchoobaaCrcTurn
namespace Go.Proofs.Ytjfggfmhchoobaa
open Go Go.RowKit
set_option linter.unusedSimpArgs false
set_option linter.unusedVariables false

set_option maxRecDepth 100000 in
set_option maxHeartbeats 4000000 in
theorem crcParts_in (A : Option Addr) (n c : Nat) (bs : List UInt8) (x y : UInt8) (at0 : Int) (w : World) (i1 : InB w A n c bs) (hat0 : -9223372036854775808 ≤ at0 ∧ at0 ≤ 9223372036854775807) :
    Calls Try.prog 3 #[.slice A n c, .agg #[.int .u8 (x.toNat : Int), .int .u8 (y.toNat : Int)], .int .i64 at0] w fun e w' => e = .returned (.bool true) ∧ Below w.heap.size w w' := by
  have hz := zero_tab
  obtain ⟨m, z, hm1, Hz, hmc, hl, Hbz, -⟩ := few_in i1.len i1.cap i1.read
  have Hm := hid hm1; clear hm1
  have Hc := hid i1.cap; clear i1
  have hxi : (x.toNat : Int) < 256 := by have := x.toNat_lt; omega
  have hyi : (y.toNat : Int) < 256 := by have := y.toNat_lt; omega
  obtain ⟨q, hq⟩ : ∃ q : Bool, q = decide (x = y) := ⟨_, rfl⟩
  have Hq1 : Hid ((((Crc.tab x.toNat).toNat : Int) == ((Crc.tab y.toNat).toNat : Int)) = q) := by
    show _ = _
    rw [hq, Bool.eq_iff_iff, beq_iff_eq, decide_eq_true_iff]
    constructor
    · intro h
      exact UInt8.toNat_inj.1 (Crc.tab_inj x.toNat_lt y.toNat_lt (BitVec.eq_of_toNat_eq (by omega)))
    · rintro rfl; rfl
  have Hq2 : Hid (((x.toNat : Int) == (y.toNat : Int)) = q) := by
    show _ = _
    rw [hq, Bool.eq_iff_iff, beq_iff_eq, decide_eq_true_iff]
    constructor
    · intro h; exact UInt8.toNat_inj.1 (by omega)
    · rintro rfl; rfl
  clear hq
  go_enter Try.func3, Try.ntmps3
  go_wp2_with fail
  have hb0 : Below w.heap.size w (w.alloc (.cells #[.int .u8 (x.toNat : Int), .int .u8 (y.toNat : Int)] 23)) := (Below.refl _ _).alloc (Nat.le_refl _) _
  have hx0 : (w.alloc (.cells #[.int .u8 (x.toNat : Int), .int .u8 (y.toNat : Int)] 23)).cell? ⟨w.heap.size, 0, none⟩ = some (.int .u8 (x.toNat : Int)) := by
    rw [cell_of_row _ _ _ _ _ _ (heap_alloc_last w _)]; rfl
  have hy0 : (w.alloc (.cells #[.int .u8 (x.toNat : Int), .int .u8 (y.toNat : Int)] 23)).cell? ⟨w.heap.size, 1, none⟩ = some (.int .u8 (y.toNat : Int)) := by
    rw [cell_of_row _ _ _ _ _ _ (heap_alloc_last w _)]; rfl
  generalize w.alloc (.cells #[.int .u8 (x.toNat : Int), .int .u8 (y.toNat : Int)] 23) = w0 at hb0 hx0 hy0 ⊢
  have Hb0 := hid hb0; clear hb0
  refine (shown_calls _).mono ?_
  rintro e w1 ⟨rfl, hb1⟩
  have hx1 := cell_below hb1 hx0
  have hy1 := cell_below hb1 hy0
  have HB1 := hid (below_all Hb0.out hb1); clear hb1 hx0 hy0
  go_wp2_with fail
  refine (new_calls _).mono ?_
  rintro e w2 ⟨rfl, hb2⟩
  have hx2 := cell_below hb2 hx1
  have hy2 := cell_below hb2 hy1
  have HB2 := hid (below_then HB1.out HB1.out.size hb2); clear hb2 HB1 hx1 hy1
  go_wp2_with (refine wpList_store_tab (w := w2) rfl (.tmp 8) (.tmp 11) rfl rfl rfl ?_)
  have Ht := hid (TabAt.new w2)
  have HB3 := hid (below_tab HB2.out HB2.out.size)
  have hx3 := cell_below ((Below.refl _ _).alloc (Nat.le_refl _) (.cells (tabs 256) 27)) hx2
  have hy3 := cell_below ((Below.refl _ _).alloc (Nat.le_refl _) (.cells (tabs 256) 27)) hy2
  clear hx2 hy2 HB2
  generalize hw3 : w2.alloc (.cells (tabs 256) 27) = w3 at Ht HB3 hx3 hy3 ⊢
  have Hw3 := hid hw3; clear hw3
  refine (few_to A n m c _ Hc.out Hm.out).mono ?_
  rintro e w' ⟨rfl, rfl⟩
  go_wp2_with fail
  refine wp_drawn [isV (.pointer (some ⟨w.heap.size, 0, none⟩)), isV (.int .u8 (x.toNat : Int)), isV (.pointer (some ⟨w2.heap.size, x.toNat, none⟩)), isV (.int .u32 ((Crc.tab x.toNat).toNat : Int)), isV (.pointer (some ⟨w.heap.size, 1, none⟩)), isV (.int .u8 (y.toNat : Int)), isV (.pointer (some ⟨w2.heap.size, y.toNat, none⟩)), isV (.int .u32 ((Crc.tab y.toNat).toNat : Int)), isV (.bool q), isV (.pointer (some ⟨w.heap.size, 0, none⟩)), isV (.int .u8 (x.toNat : Int)), isV (.pointer (some ⟨w.heap.size, 1, none⟩)), isV (.int .u8 (y.toNat : Int)), isV (.bool q), isV (.bool false)] (by kernel_rfl) ?r4hok ?r4steps ?r4fin
  case r4hok => kernel_rfl
  case r4steps =>
    refine ⟨?r4s0, ?r4s1, ?r4s2, ?r4s3, ?r4s4, ?r4s5, ?r4s6, ?r4s7, ?r4s8, ?r4s9, ?r4s10, ?r4s11, ?r4s12, ?r4s13, ?r4s14, trivial⟩
    case r4s1 =>
      intro v W hE hd; simp only [Region.wanted, ↓reduceIte]; (try simp [deps, waitsOn, Region.binds, knowing, isV, ownsV, anyV] at hd); simp only [putAll, List.take_succ_cons, List.take_zero, List.drop_succ_cons, List.drop_zero, Act.put, List.setIfInBounds_toArray, List.set_cons_zero, List.set_cons_succ, Nat.zero_add, Nat.reduceAdd]
      have e1 := cell_below hE hx3
      go_simp
      exact ⟨Below.refl _ _, rfl⟩
    case r4s3 =>
      intro v W hE hd; simp only [Region.wanted, ↓reduceIte]; (try simp [deps, waitsOn, Region.binds, knowing, isV, ownsV, anyV] at hd); simp only [putAll, List.take_succ_cons, List.take_zero, List.drop_succ_cons, List.drop_zero, Act.put, List.setIfInBounds_toArray, List.set_cons_zero, List.set_cons_succ, Nat.zero_add, Nat.reduceAdd]
      have e1 := (Ht.out.below hE) x.toNat x.toNat_lt
      go_simp
      exact ⟨Below.refl _ _, rfl⟩
    case r4s5 =>
      intro v W hE hd; simp only [Region.wanted, ↓reduceIte]; (try simp [deps, waitsOn, Region.binds, knowing, isV, ownsV, anyV] at hd); simp only [putAll, List.take_succ_cons, List.take_zero, List.drop_succ_cons, List.drop_zero, Act.put, List.setIfInBounds_toArray, List.set_cons_zero, List.set_cons_succ, Nat.zero_add, Nat.reduceAdd]
      have e1 := cell_below hE hy3
      go_simp
      exact ⟨Below.refl _ _, rfl⟩
    case r4s7 =>
      intro v W hE hd; simp only [Region.wanted, ↓reduceIte]; (try simp [deps, waitsOn, Region.binds, knowing, isV, ownsV, anyV] at hd); simp only [putAll, List.take_succ_cons, List.take_zero, List.drop_succ_cons, List.drop_zero, Act.put, List.setIfInBounds_toArray, List.set_cons_zero, List.set_cons_succ, Nat.zero_add, Nat.reduceAdd]
      have e1 := (Ht.out.below hE) y.toNat y.toNat_lt
      go_simp
      exact ⟨Below.refl _ _, rfl⟩
    case r4s8 =>
      intro v W hE hd; simp only [Region.wanted, ↓reduceIte]; (try simp [deps, waitsOn, Region.binds, knowing, isV, ownsV, anyV] at hd); simp only [putAll, List.take_succ_cons, List.take_zero, List.drop_succ_cons, List.drop_zero, Act.put, List.setIfInBounds_toArray, List.set_cons_zero, List.set_cons_succ, Nat.zero_add, Nat.reduceAdd]
      have e1 := Hq1.out
      go_simp
      exact ⟨Below.refl _ _, rfl⟩
    case r4s10 =>
      intro v W hE hd; simp only [Region.wanted, ↓reduceIte]; (try simp [deps, waitsOn, Region.binds, knowing, isV, ownsV, anyV] at hd); simp only [putAll, List.take_succ_cons, List.take_zero, List.drop_succ_cons, List.drop_zero, Act.put, List.setIfInBounds_toArray, List.set_cons_zero, List.set_cons_succ, Nat.zero_add, Nat.reduceAdd]
      have e1 := cell_below hE hx3
      go_simp
      exact ⟨Below.refl _ _, rfl⟩
    case r4s12 =>
      intro v W hE hd; simp only [Region.wanted, ↓reduceIte]; (try simp [deps, waitsOn, Region.binds, knowing, isV, ownsV, anyV] at hd); simp only [putAll, List.take_succ_cons, List.take_zero, List.drop_succ_cons, List.drop_zero, Act.put, List.setIfInBounds_toArray, List.set_cons_zero, List.set_cons_succ, Nat.zero_add, Nat.reduceAdd]
      have e1 := cell_below hE hy3
      go_simp
      exact ⟨Below.refl _ _, rfl⟩
    case r4s13 =>
      intro v W hE hd; simp only [Region.wanted, ↓reduceIte]; (try simp [deps, waitsOn, Region.binds, knowing, isV, ownsV, anyV] at hd); simp only [putAll, List.take_succ_cons, List.take_zero, List.drop_succ_cons, List.drop_zero, Act.put, List.setIfInBounds_toArray, List.set_cons_zero, List.set_cons_succ, Nat.zero_add, Nat.reduceAdd]
      have e1 := Hq2.out
      go_simp
      exact ⟨Below.refl _ _, rfl⟩
    all_goals (intro v W hE hd; simp only [Region.wanted, ↓reduceIte]; (try simp [deps, waitsOn, Region.binds, knowing, isV, ownsV, anyV] at hd); simp only [putAll, List.take_succ_cons, List.take_zero, List.drop_succ_cons, List.drop_zero, Act.put, List.setIfInBounds_toArray, List.set_cons_zero, List.set_cons_succ, Nat.zero_add, Nat.reduceAdd]; go_simp; exact ⟨Below.refl _ _, rfl⟩)
  case r4fin =>
    rintro v W hE hall
    have e14 : v 14 = .bool false := by
      obtain ⟨_, _, _, _, _, _, _, _, _, _, hall⟩ := hall
      obtain ⟨_, _, _, _, h, _⟩ := hall
      exact h
    simp only [putAll, List.take_succ_cons, List.take_zero, List.drop_succ_cons, List.drop_zero, Act.put, List.setIfInBounds_toArray, List.set_cons_zero, List.set_cons_succ, Nat.zero_add, Nat.reduceAdd]
    rw [e14]
    have HBW := hid (Ext.trans' HB3.out hE)
    have HtW := hid (Ht.out.below hE)
    have hxW := cell_below hE hx3
    have hyW := cell_below hE hy3
    clear hall hE e14 hx3 hy3
    by_cases hat : at0 < 0
    · go_wp2
      go_ret
      exact ⟨rfl, HBW.out⟩
    have hat' : 0 ≤ at0 := by omega
    by_cases hlt : at0 < (m : Int)
    rotate_left
    · have hge : (m : Int) ≤ at0 := by omega
      go_wp2
      go_ret
      exact ⟨rfl, HBW.out⟩
    obtain ⟨k, rfl⟩ := Int.eq_ofNat_of_zero_le hat'
    have hkm : k < m := by omega
    have hnge : ¬ ((m : Int) ≤ (k : Int)) := by omega
    by_cases hx0 : x = 0
    · subst hx0
      have e0 : ((0 : UInt8).toNat : Int) = 0 := rfl
      rw [e0] at hxW
      go_wp2
      go_ret
      exact ⟨rfl, HBW.out⟩
    have hxne : ((x.toNat : Int) == 0) = false := by
      rw [beq_eq_false_iff_ne]
      intro h
      exact hx0 (UInt8.toNat_inj.1 (by show x.toNat = 0; omega))
    have Hx0 := hid hx0; clear hx0
    have Hkm := hid hkm
    go_wp2_with (at_builtin; refine wpList_appB (w0 := W) rfl (.tmp 43) (.tmp 44) rfl W.heap.size (.slice (some ⟨W.heap.size, 0, none⟩) 0 0) [] rfl (OB_empty W _ (Nat.le_refl _)) ((Below.refl W.heap.size W).alloc (Nat.le_refl _) _) (by simp) A c m z rfl Hz (Hbz.out.below (Ext.trans' HBW.out ((Below.refl _ _).alloc (Nat.le_refl _) _))) (by simp; omega) ?_; intro v1 w4 Hob Hbel _)
    rw [List.nil_append] at Hob
    have hzl : k < z.length := by rw [← Hz.out]; exact hkm
    obtain ⟨g, c4, rfl, hg1, hg2, hc4, hcell⟩ := Hob.out.cellAt (by omega)
    rw [← Hz.out] at Hob ⊢
    obtain ⟨hck, hfk⟩ := hcell k hzl
    clear hcell
    have Hset := hid (Crc.turnAt_snoc z k [] x z[k] (by simpa using hzl) (by rw [Crc.turnAt_nil _ _ (by omega)]; simp [hzl]))
    have hone := hid (Crc.turnAt_nil z k (by omega))
    generalize hzk : z[k] = b at hck Hset
    have Hxor := hid (xor_bytes b x)
    generalize b ^^^ x = u at Hset Hxor
    have HB4 := hid (Ext.trans' HBW.out Hbel.out)
    have Ht4 := hid (HtW.out.below Hbel.out)
    have hx4 := cell_below Hbel.out hxW
    clear hxW hyW hzk
    have hk0 : (0 : Int) ≤ (k : Int) := by omega
    go_wp2_with fail
    refine wp_drawn_last 10 [isV (.slice (some ⟨g, 0, none⟩) m c4), isV (.int .i64 (k : Int)), isV (.slice (some ⟨g, 0, none⟩) m c4), isV (.int .i64 (k : Int)), isV (.pointer (some ⟨g, k, none⟩)), isV (.int .u8 (b.toNat : Int)), isV (.pointer (some ⟨w.heap.size, 0, none⟩)), isV (.int .u8 (x.toNat : Int)), isV (.int .u8 (u.toNat : Int)), isV (.pointer (some ⟨g, k, none⟩))] (by decide) (by kernel_rfl) ?r9hok ?r9hcov ?r9steps ?r9fin
    case r9hok => kernel_rfl
    case r9hcov => kernel_rfl
    case r9steps =>
      refine ⟨?r9s0, ?r9s1, ?r9s2, ?r9s3, ?r9s4, ?r9s5, ?r9s6, ?r9s7, ?r9s8, ?r9s9, trivial⟩
      case r9s5 =>
        intro v W hE hd; simp only [Region.wanted, ↓reduceIte]; (try simp [deps, waitsOn, Region.binds, knowing, isV, ownsV, anyV] at hd); simp only [putAll, List.take_succ_cons, List.take_zero, List.drop_succ_cons, List.drop_zero, Act.put, List.setIfInBounds_toArray, List.set_cons_zero, List.set_cons_succ, Nat.zero_add, Nat.reduceAdd]
        have e1 := cell_below hE hck
        go_simp
        exact ⟨Below.refl _ _, rfl⟩
      case r9s7 =>
        intro v W hE hd; simp only [Region.wanted, ↓reduceIte]; (try simp [deps, waitsOn, Region.binds, knowing, isV, ownsV, anyV] at hd); simp only [putAll, List.take_succ_cons, List.take_zero, List.drop_succ_cons, List.drop_zero, Act.put, List.setIfInBounds_toArray, List.set_cons_zero, List.set_cons_succ, Nat.zero_add, Nat.reduceAdd]
        have e1 := cell_below hE hx4
        go_simp
        exact ⟨Below.refl _ _, rfl⟩
      case r9s8 =>
        intro v W hE hd; simp only [Region.wanted, ↓reduceIte]; (try simp [deps, waitsOn, Region.binds, knowing, isV, ownsV, anyV] at hd); simp only [putAll, List.take_succ_cons, List.take_zero, List.drop_succ_cons, List.drop_zero, Act.put, List.setIfInBounds_toArray, List.set_cons_zero, List.set_cons_succ, Nat.zero_add, Nat.reduceAdd]
        have e1 := Hxor.out
        go_simp
        exact ⟨Below.refl _ _, rfl⟩
      all_goals (intro v W hE hd; simp only [Region.wanted, ↓reduceIte]; (try simp [deps, waitsOn, Region.binds, knowing, isV, ownsV, anyV] at hd); simp only [putAll, List.take_succ_cons, List.take_zero, List.drop_succ_cons, List.drop_zero, Act.put, List.setIfInBounds_toArray, List.set_cons_zero, List.set_cons_succ, Nat.zero_add, Nat.reduceAdd]; go_simp; exact ⟨Below.refl _ _, rfl⟩)
    case r9fin =>
      rintro v W1 hE hall
      have e8 : v 8 = .int .u8 (u.toNat : Int) := by
        obtain ⟨_, _, _, _, _, _, _, _, h, _⟩ := hall
        exact h
      have e9 : v 9 = .pointer (some ⟨g, k, none⟩) := by
        obtain ⟨_, _, _, _, _, _, _, _, _, h, _⟩ := hall
        exact h
      simp only [putAll, List.take_succ_cons, List.take_zero, List.drop_succ_cons, List.drop_zero, Act.put, List.setIfInBounds_toArray, List.set_cons_zero, List.set_cons_succ, Nat.zero_add, Nat.reduceAdd]
      rw [e8, e9]
      have hf1 := (hE.frozen (p := ⟨g, k, none⟩) hg2).trans hfk
      have hc1 := cell_below hE hck
      have hgW1 : g < W1.heap.size := Nat.lt_of_lt_of_le hg2 hE.size
      have hst := (Hob.out.below hE).stored Hz.out k u
      have hbs : Below W.heap.size W1 (W1.setCell ⟨g, k, none⟩ (.int .u8 (u.toNat : Int))) := (Below.refl _ _).setCell hg1 _
      have Hst := hid hst; clear hst
      have hWB : Below W.heap.size W (W1.setCell ⟨g, k, none⟩ (.int .u8 (u.toNat : Int))) := (Hbel.out.trans (hE.mono Hbel.out.size)).trans hbs
      have HB5 := hid (below_all HBW.out hWB)
      have Ht5 := hid (HtW.out.below hWB)
      have hlen : (z.set k u).length = m := by rw [List.length_set, Hz.out]
      have hne : Crc.sum (z.set k u) ≠ Crc.sum z := by
        have h := Hset.out
        rw [hone.out, List.nil_append, List.length_nil, Nat.add_zero] at h
        rw [← h]
        exact Crc.sum_turn_ne z k [x] (by simp; omega) (by simp) x (by simp) Hx0.out
      have hneI : (((Crc.sum (z.set k u)).toNat : Int) != ((Crc.sum z).toNat : Int)) = true := by
        rw [bne_iff_ne]
        intro h
        exact hne (BitVec.eq_of_toNat_eq (by omega))
      have hrb := hid (RV.own Hst.out)
      clear hE e8 e9 hck hx4 hfk hbs hWB hne
      have Hne := hid hneI; clear hneI
      go_wp2_with fail
      clear hc1 hf1
      generalize W1.setCell ⟨g, k, none⟩ (.int .u8 (u.toNat : Int)) = w5 at Hst HB5 Ht5 hrb ⊢
      obtain ⟨A5, c5, e5, -, hr5⟩ := hrb.out
      simp only [Value.slice.injEq] at e5
      obtain ⟨rfl, -, rfl⟩ := e5
      have Hr5 := hid hr5; clear hr5
      have hcc := sum_at w2.heap.size (some ⟨g, 0, none⟩) m c4 (z.set k u) w5 hlen.symm (by omega) Ht5.out Hr5.out
      refine hcc.mono ?_; clear hcc
      rintro e w6 ⟨rfl, rfl⟩
      go_wp2_with fail
      have hcc := sum_at w2.heap.size A m c z w5 Hz.out (by omega) Ht5.out (Hbz.out.below HB5.out)
      refine hcc.mono ?_; clear hcc
      rintro e w6 ⟨rfl, rfl⟩
      have hneI := Hne.out
      go_wp2
      go_ret
      exact ⟨rfl, HB5.out⟩

end Go.Proofs.Ytjfggfmhchoobaa
