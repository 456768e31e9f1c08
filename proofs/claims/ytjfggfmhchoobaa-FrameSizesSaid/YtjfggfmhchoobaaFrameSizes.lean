/- The walk of the law FrameSizes. -/
import Derived.Test.YtjfggfmhchoobaaFrame7
namespace Go.Proofs.Ytjfggfmhchoobaa
open Go Go.RowKit
set_option linter.unusedSimpArgs false
set_option linter.unusedVariables false

theorem frm_begins {x y : List UInt8} (hx : x.length ≤ 16384) (hy : y.length ≤ 16384) : ((Frm.frm y).take (Frm.frm x).length == Frm.frm x) = (x == y) := by
  rw [Bool.eq_iff_iff, beq_iff_eq, beq_iff_eq]
  constructor
  · intro h
    exact Frm.frm_inj hx hy [] (by rw [List.append_nil]; exact h.symm)
  · rintro rfl
    exact List.take_length
set_option maxRecDepth 100000 in
set_option maxHeartbeats 4000000 in
theorem frameSizes_in (A1 : Option Addr) (n1 C1 : Nat) (b1 : List UInt8) (A2 : Option Addr) (n2 C2 : Nat) (b2 : List UInt8) (w : World) (i1 : InB w A1 n1 C1 b1) (i2 : InB w A2 n2 C2 b2) :
    Calls Try.prog 9 #[.slice A1 n1 C1, .slice A2 n2 C2] w fun e w' => e = .returned (.bool true) ∧ Below w.heap.size w w' := by
  have hz := zero_tab
  obtain ⟨m1, x, hm1, Hx, hmc1, hl1, Hbx, -⟩ := few9_in i1.len i1.cap i1.read
  obtain ⟨m2, y, hm2, Hy, hmc2, hl2, Hby, -⟩ := few9_in i2.len i2.cap i2.read
  have Hm1 := hid hm1; have Hm2 := hid hm2; clear hm1 hm2
  have Hc1 := hid i1.cap; have Hc2 := hid i2.cap; clear i1 i2
  go_enter Try.func9, Try.ntmps9
  go_wp2_with fail
  refine (shown9_calls _).mono ?_
  rintro e w1 ⟨rfl, hb1⟩
  have HB1 := hid hb1; clear hb1
  go_wp2_with fail
  -- t := crc.New() in a variable of its own: from w1 on
  refine (new_calls _).mono ?_
  rintro e w2 ⟨rfl, hb2⟩
  have HB2 := hid (below_then HB1.out HB1.out.size hb2); clear hb2 HB1
  go_wp2_with (refine wpList_store_tab (w := w2) rfl (.tmp 6) (.tmp 13) rfl rfl rfl ?_)
  have Ht := hid (TabAt.new w2)
  have HB3 := hid (below_tab HB2.out HB2.out.size)
  have hz3 : w.heap.size ≤ w2.heap.size := HB2.out.size
  have Hz3 := hid hz3; clear hz3 HB2
  generalize hw3 : w2.alloc (.cells (tabs 256) 27) = w3 at Ht HB3 ⊢
  have Hw3 := hid hw3; clear hw3
  go_wp2_with fail
  refine (few9_to A1 n1 m1 C1 _ Hc1.out Hm1.out).mono ?_
  rintro e w' ⟨rfl, rfl⟩
  go_wp2_with fail
  refine (few9_to A2 n2 m2 C2 _ Hc2.out Hm2.out).mono ?_
  rintro e w' ⟨rfl, rfl⟩
  go_wp2_with fail
  have hcc := put_any w2.heap.size A1 m1 C1 x w3 Hx.out Ht.out (Hbx.out.below HB3.out)
  refine hcc.mono ?_; clear hcc
  rintro e w4 ⟨v4, rfl, hO4, hB4⟩
  have HB4 := hid (below_all HB3.out hB4); have Ht4 := hid (Ht.out.below hB4); clear hB4
  obtain ⟨A4, c4, rfl, hc4, Hr4⟩ := hO4.readAt
  clear hO4
  go_wp2_with fail
  have hcc := put_any w2.heap.size A2 m2 C2 y w4 Hy.out Ht4.out (Hby.out.below HB4.out)
  refine hcc.mono ?_; clear hcc
  rintro e w5 ⟨v5, rfl, hO5, hB5⟩
  have HR4 := hid (Hr4.out.below hB5)
  have HB5 := hid (below_all HB4.out hB5); clear hB5
  obtain ⟨A5, c5, rfl, hc5, HR5⟩ := hO5.readAt
  clear hO5 Hr4
  by_cases g1 : 16384 < m1
  · have hg1 : putE x = 3 := by unfold putE; rw [if_pos (by rw [← Hx.out]; exact g1)]
    rw [hg1]
    clear hg1
    by_cases g2 : 16384 < m2
    · have hg2 : putE y = 3 := by unfold putE; rw [if_pos (by rw [← Hy.out]; exact g2)]
      rw [hg2]
      clear hg2
      have g1' : (16384 : Int) < (m1 : Int) := by omega
      have g2' : (16384 : Int) < (m2 : Int) := by omega
      go_wp2
      go_ret
      exact ⟨by simp [g2'], HB5.out⟩
    · have hg2 : putE y = 0 := by unfold putE; rw [if_neg (by rw [← Hy.out]; exact g2)]
      rw [hg2]
      clear hg2
      go_wp2
      go_ret
      exact ⟨rfl, HB5.out⟩
  have hg1 : putE x = 0 := by unfold putE; rw [if_neg (by rw [← Hx.out]; exact g1)]
  have hX : putB x = Frm.frm x := by unfold putB; rw [if_neg (by rw [← Hx.out]; exact g1)]
  rw [hg1]
  rw [hX] at HR4 hc4 ⊢
  clear hg1 hX
  by_cases g2 : 16384 < m2
  · have hg2 : putE y = 3 := by unfold putE; rw [if_pos (by rw [← Hy.out]; exact g2)]
    rw [hg2]
    clear hg2
    have g2' : (16384 : Int) < (m2 : Int) := by omega
    go_wp2
    go_ret
    exact ⟨by simp [g2'], HB5.out⟩
  have hg2 : putE y = 0 := by unfold putE; rw [if_neg (by rw [← Hy.out]; exact g2)]
  have hY : putB y = Frm.frm y := by unfold putB; rw [if_neg (by rw [← Hy.out]; exact g2)]
  rw [hg2]
  rw [hY] at HR5 hc5 ⊢
  clear hg2 hY
  have Hbeg := hid (frm_begins (x := x) (y := y) (by rw [← Hx.out]; omega) (by rw [← Hy.out]; omega))
  obtain ⟨X, hXl⟩ : ∃ X, X = (Frm.frm x).length := ⟨_, rfl⟩
  obtain ⟨Y, hYl⟩ : ∃ Y, Y = (Frm.frm y).length := ⟨_, rfl⟩
  rw [← hXl] at hc4 Hbeg ⊢
  rw [← hYl] at hc5 ⊢
  have HX := hid hXl; have HY := hid hYl
  have eX : X = m1 + 8 := by rw [hXl, Frm.frm_length, Hx.out]
  have eY : Y = m2 + 8 := by rw [hYl, Frm.frm_length, Hy.out]
  clear hXl hYl
  subst eX; subst eY
  have Hxl := Hx; have Hyl := Hy
  go_wp2_with fail
  by_cases hle : m1 ≤ m2
  rotate_left
  · have hnle : m2 + 8 < m1 + 8 := by omega
    refine wp_drawn [isV (.slice A5 (m2 + 8) c5), isV (.int .i64 ((m2 + 8 : Nat) : Int)), isV (.slice A4 (m1 + 8) c4), isV (.int .i64 ((m1 + 8 : Nat) : Int)), isV (.bool false), isV (.bool false), anyV, anyV, anyV, anyV, anyV, anyV, anyV, anyV, isV (.bool false), isV (.bool false)] (by kernel_rfl) ?rfhok ?rfsteps ?rffin
    case rfhok => kernel_rfl
    case rfsteps =>
      refine ⟨?rfs0, ?rfs1, ?rfs2, ?rfs3, ?rfs4, ?rfs5, ?rfs6, ?rfs7, ?rfs8, ?rfs9, ?rfs10, ?rfs11, ?rfs12, ?rfs13, ?rfs14, ?rfs15, trivial⟩
      case rfs1 =>
        intro v W hE hd; simp only [Region.wanted, ↓reduceIte]; (try simp [deps, waitsOn, Region.binds, knowing, isV, ownsV, anyV] at hd); simp only [putAll, List.take_succ_cons, List.take_zero, List.drop_succ_cons, List.drop_zero, Act.put, List.setIfInBounds_toArray, List.set_cons_zero, List.set_cons_succ, Nat.zero_add, Nat.reduceAdd]
        go_simp
        exact ⟨Below.refl _ _, rfl⟩
      case rfs3 =>
        intro v W hE hd; simp only [Region.wanted, ↓reduceIte]; (try simp [deps, waitsOn, Region.binds, knowing, isV, ownsV, anyV] at hd); simp only [putAll, List.take_succ_cons, List.take_zero, List.drop_succ_cons, List.drop_zero, Act.put, List.setIfInBounds_toArray, List.set_cons_zero, List.set_cons_succ, Nat.zero_add, Nat.reduceAdd]
        go_simp
        exact ⟨Below.refl _ _, rfl⟩
      case rfs4 =>
        intro v W hE hd; simp only [Region.wanted, ↓reduceIte]; (try simp [deps, waitsOn, Region.binds, knowing, isV, ownsV, anyV] at hd); simp only [putAll, List.take_succ_cons, List.take_zero, List.drop_succ_cons, List.drop_zero, Act.put, List.setIfInBounds_toArray, List.set_cons_zero, List.set_cons_succ, Nat.zero_add, Nat.reduceAdd]
        go_simp
        exact ⟨Below.refl _ _, rfl⟩
      case rfs6 =>
        intro v W hE hd; (try simp [deps, waitsOn, Region.binds, knowing, isV, ownsV, anyV] at hd); simp only [putAll, List.take_succ_cons, List.take_zero, List.drop_succ_cons, List.drop_zero, Act.put, List.setIfInBounds_toArray, List.set_cons_zero, List.set_cons_succ, Nat.zero_add, Nat.reduceAdd]; rw [if_neg (by simp [Region.wanted, yielded, hd])]; exact trivial
      case rfs7 =>
        intro v W hE hd; (try simp [deps, waitsOn, Region.binds, knowing, isV, ownsV, anyV] at hd); simp only [putAll, List.take_succ_cons, List.take_zero, List.drop_succ_cons, List.drop_zero, Act.put, List.setIfInBounds_toArray, List.set_cons_zero, List.set_cons_succ, Nat.zero_add, Nat.reduceAdd]; rw [if_neg (by simp [Region.wanted, yielded, hd])]; exact trivial
      case rfs8 =>
        intro v W hE hd; (try simp [deps, waitsOn, Region.binds, knowing, isV, ownsV, anyV] at hd); simp only [putAll, List.take_succ_cons, List.take_zero, List.drop_succ_cons, List.drop_zero, Act.put, List.setIfInBounds_toArray, List.set_cons_zero, List.set_cons_succ, Nat.zero_add, Nat.reduceAdd]; rw [if_neg (by simp [Region.wanted, yielded, hd])]; exact trivial
      case rfs9 =>
        intro v W hE hd; (try simp [deps, waitsOn, Region.binds, knowing, isV, ownsV, anyV] at hd); simp only [putAll, List.take_succ_cons, List.take_zero, List.drop_succ_cons, List.drop_zero, Act.put, List.setIfInBounds_toArray, List.set_cons_zero, List.set_cons_succ, Nat.zero_add, Nat.reduceAdd]; rw [if_neg (by simp [Region.wanted, yielded, hd])]; exact trivial
      case rfs10 =>
        intro v W hE hd; (try simp [deps, waitsOn, Region.binds, knowing, isV, ownsV, anyV] at hd); simp only [putAll, List.take_succ_cons, List.take_zero, List.drop_succ_cons, List.drop_zero, Act.put, List.setIfInBounds_toArray, List.set_cons_zero, List.set_cons_succ, Nat.zero_add, Nat.reduceAdd]; rw [if_neg (by simp [Region.wanted, yielded, hd])]; exact trivial
      case rfs11 =>
        intro v W hE hd; (try simp [deps, waitsOn, Region.binds, knowing, isV, ownsV, anyV] at hd); simp only [putAll, List.take_succ_cons, List.take_zero, List.drop_succ_cons, List.drop_zero, Act.put, List.setIfInBounds_toArray, List.set_cons_zero, List.set_cons_succ, Nat.zero_add, Nat.reduceAdd]; rw [if_neg (by simp [Region.wanted, yielded, hd])]; exact trivial
      case rfs12 =>
        intro v W hE hd; (try simp [deps, waitsOn, Region.binds, knowing, isV, ownsV, anyV] at hd); simp only [putAll, List.take_succ_cons, List.take_zero, List.drop_succ_cons, List.drop_zero, Act.put, List.setIfInBounds_toArray, List.set_cons_zero, List.set_cons_succ, Nat.zero_add, Nat.reduceAdd]; rw [if_neg (by simp [Region.wanted, yielded, hd])]; exact trivial
      case rfs13 =>
        intro v W hE hd; (try simp [deps, waitsOn, Region.binds, knowing, isV, ownsV, anyV] at hd); simp only [putAll, List.take_succ_cons, List.take_zero, List.drop_succ_cons, List.drop_zero, Act.put, List.setIfInBounds_toArray, List.set_cons_zero, List.set_cons_succ, Nat.zero_add, Nat.reduceAdd]; rw [if_neg (by simp [Region.wanted, yielded, hd])]; exact trivial
      case rfs14 =>
        intro v W hE hd; simp only [Region.wanted, ↓reduceIte]; (try simp [deps, waitsOn, Region.binds, knowing, isV, ownsV, anyV] at hd); simp only [putAll, List.take_succ_cons, List.take_zero, List.drop_succ_cons, List.drop_zero, Act.put, List.setIfInBounds_toArray, List.set_cons_zero, List.set_cons_succ, Nat.zero_add, Nat.reduceAdd]
        go_simp
        exact ⟨Below.refl _ _, rfl⟩
      all_goals (intro v W hE hd; simp only [Region.wanted, ↓reduceIte]; (try simp [deps, waitsOn, Region.binds, knowing, isV, ownsV, anyV] at hd); simp only [putAll, List.take_succ_cons, List.take_zero, List.drop_succ_cons, List.drop_zero, Act.put, List.setIfInBounds_toArray, List.set_cons_zero, List.set_cons_succ, Nat.zero_add, Nat.reduceAdd]; go_simp; exact ⟨Below.refl _ _, rfl⟩)
    case rffin =>
      rintro v w6 hE hall
      have e15 : v 15 = .bool false := by
        obtain ⟨_, _, _, _, _, _, _, _, _, _, _, _, _, _, _, h, _⟩ := hall
        exact h
      simp only [putAll, List.take_succ_cons, List.take_zero, List.drop_succ_cons, List.drop_zero, Act.put, List.setIfInBounds_toArray, List.set_cons_zero, List.set_cons_succ, Nat.zero_add, Nat.reduceAdd]
      rw [e15]
      have hq : (x == y) = false := beq_eq_false_iff_ne.2 (fun e => by have h1 := congrArg List.length e; have h2 := Hxl.out; have h3 := Hyl.out; omega)
      have HBf := hid (below_all HB5.out hE)
      have e1 := run_str_at Hx.out ((Hbx.out.below HB5.out).below hE) C1
      have e2 := run_str_at Hy.out ((Hby.out.below HB5.out).below hE) C2
      have e7 := str_toList x
      have e8 := str_toList y
      clear hE hall e15
      go_wp2
      go_ret
      exact ⟨rfl, HBf.out⟩
  have hle' : m1 + 8 ≤ m2 + 8 := by omega
  have Htk := hid (show m1 + 8 = ((Frm.frm y).take (m1 + 8)).length by rw [List.length_take, ← HY.out]; omega)
  refine wp_drawn [isV (.slice A5 (m2 + 8) c5), isV (.int .i64 ((m2 + 8 : Nat) : Int)), isV (.slice A4 (m1 + 8) c4), isV (.int .i64 ((m1 + 8 : Nat) : Int)), isV (.bool true), isV (.bool true), isV (.slice A5 (m2 + 8) c5), isV (.slice A4 (m1 + 8) c4), isV (.int .i64 ((m1 + 8 : Nat) : Int)), isV (.slice A5 (m1 + 8) c5), isV (.string (str ((Frm.frm y).take (m1 + 8)))), isV (.slice A4 (m1 + 8) c4), isV (.string (str (Frm.frm x))), isV (.bool ((Frm.frm y).take (m1 + 8) == Frm.frm x)), isV (.bool ((Frm.frm y).take (m1 + 8) == Frm.frm x)), isV (.bool ((Frm.frm y).take (m1 + 8) == Frm.frm x))] (by kernel_rfl) ?rthok ?rtsteps ?rtfin
  case rthok => kernel_rfl
  case rtsteps =>
    refine ⟨?rts0, ?rts1, ?rts2, ?rts3, ?rts4, ?rts5, ?rts6, ?rts7, ?rts8, ?rts9, ?rts10, ?rts11, ?rts12, ?rts13, ?rts14, ?rts15, trivial⟩
    case rts1 =>
      intro v W hE hd; simp only [Region.wanted, ↓reduceIte]; (try simp [deps, waitsOn, Region.binds, knowing, isV, ownsV, anyV] at hd); simp only [putAll, List.take_succ_cons, List.take_zero, List.drop_succ_cons, List.drop_zero, Act.put, List.setIfInBounds_toArray, List.set_cons_zero, List.set_cons_succ, Nat.zero_add, Nat.reduceAdd]
      go_simp
      exact ⟨Below.refl _ _, rfl⟩
    case rts3 =>
      intro v W hE hd; simp only [Region.wanted, ↓reduceIte]; (try simp [deps, waitsOn, Region.binds, knowing, isV, ownsV, anyV] at hd); simp only [putAll, List.take_succ_cons, List.take_zero, List.drop_succ_cons, List.drop_zero, Act.put, List.setIfInBounds_toArray, List.set_cons_zero, List.set_cons_succ, Nat.zero_add, Nat.reduceAdd]
      go_simp
      exact ⟨Below.refl _ _, rfl⟩
    case rts4 =>
      intro v W hE hd; simp only [Region.wanted, ↓reduceIte]; (try simp [deps, waitsOn, Region.binds, knowing, isV, ownsV, anyV] at hd); simp only [putAll, List.take_succ_cons, List.take_zero, List.drop_succ_cons, List.drop_zero, Act.put, List.setIfInBounds_toArray, List.set_cons_zero, List.set_cons_succ, Nat.zero_add, Nat.reduceAdd]
      go_simp
      exact ⟨Below.refl _ _, rfl⟩
    case rts6 =>
      intro v W hE hd; (try simp [deps, waitsOn, Region.binds, knowing, isV, ownsV, anyV] at hd); simp only [putAll, List.take_succ_cons, List.take_zero, List.drop_succ_cons, List.drop_zero, Act.put, List.setIfInBounds_toArray, List.set_cons_zero, List.set_cons_succ, Nat.zero_add, Nat.reduceAdd]; rw [if_pos (by simp [Region.wanted, yielded, hd])]
      go_simp
      exact ⟨Below.refl _ _, rfl⟩
    case rts7 =>
      intro v W hE hd; (try simp [deps, waitsOn, Region.binds, knowing, isV, ownsV, anyV] at hd); simp only [putAll, List.take_succ_cons, List.take_zero, List.drop_succ_cons, List.drop_zero, Act.put, List.setIfInBounds_toArray, List.set_cons_zero, List.set_cons_succ, Nat.zero_add, Nat.reduceAdd]; rw [if_pos (by simp [Region.wanted, yielded, hd])]
      go_simp
      exact ⟨Below.refl _ _, rfl⟩
    case rts8 =>
      intro v W hE hd; (try simp [deps, waitsOn, Region.binds, knowing, isV, ownsV, anyV] at hd); simp only [putAll, List.take_succ_cons, List.take_zero, List.drop_succ_cons, List.drop_zero, Act.put, List.setIfInBounds_toArray, List.set_cons_zero, List.set_cons_succ, Nat.zero_add, Nat.reduceAdd]; rw [if_pos (by simp [Region.wanted, yielded, hd])]
      go_simp
      exact ⟨Below.refl _ _, rfl⟩
    case rts9 =>
      intro v W hE hd; (try simp [deps, waitsOn, Region.binds, knowing, isV, ownsV, anyV] at hd); simp only [putAll, List.take_succ_cons, List.take_zero, List.drop_succ_cons, List.drop_zero, Act.put, List.setIfInBounds_toArray, List.set_cons_zero, List.set_cons_succ, Nat.zero_add, Nat.reduceAdd]; rw [if_pos (by simp [Region.wanted, yielded, hd])]
      have e1 : (m1 : Int) + 8 ≤ (c5 : Int) := by omega
      have e2 : (0 : Int) ≤ (m1 : Int) + 8 := by omega
      have e3 : ((m1 : Int) + 8).toNat = m1 + 8 := by omega
      go_simp
      exact ⟨Below.refl _ _, rfl⟩
    case rts10 =>
      intro v W hE hd; (try simp [deps, waitsOn, Region.binds, knowing, isV, ownsV, anyV] at hd); simp only [putAll, List.take_succ_cons, List.take_zero, List.drop_succ_cons, List.drop_zero, Act.put, List.setIfInBounds_toArray, List.set_cons_zero, List.set_cons_succ, Nat.zero_add, Nat.reduceAdd]; rw [if_pos (by simp [Region.wanted, yielded, hd])]
      have e1 := run_str_at (n := (m1 + 8)) (Htk.out) ((HR5.out.take (m1 + 8)).below hE) c5
      go_simp
      exact ⟨Below.refl _ _, rfl⟩
    case rts11 =>
      intro v W hE hd; (try simp [deps, waitsOn, Region.binds, knowing, isV, ownsV, anyV] at hd); simp only [putAll, List.take_succ_cons, List.take_zero, List.drop_succ_cons, List.drop_zero, Act.put, List.setIfInBounds_toArray, List.set_cons_zero, List.set_cons_succ, Nat.zero_add, Nat.reduceAdd]; rw [if_pos (by simp [Region.wanted, yielded, hd])]
      go_simp
      exact ⟨Below.refl _ _, rfl⟩
    case rts12 =>
      intro v W hE hd; (try simp [deps, waitsOn, Region.binds, knowing, isV, ownsV, anyV] at hd); simp only [putAll, List.take_succ_cons, List.take_zero, List.drop_succ_cons, List.drop_zero, Act.put, List.setIfInBounds_toArray, List.set_cons_zero, List.set_cons_succ, Nat.zero_add, Nat.reduceAdd]; rw [if_pos (by simp [Region.wanted, yielded, hd])]
      have e1 := run_str_at HX.out (HR4.out.below hE) c4
      go_simp
      exact ⟨Below.refl _ _, rfl⟩
    case rts13 =>
      intro v W hE hd; (try simp [deps, waitsOn, Region.binds, knowing, isV, ownsV, anyV] at hd); simp only [putAll, List.take_succ_cons, List.take_zero, List.drop_succ_cons, List.drop_zero, Act.put, List.setIfInBounds_toArray, List.set_cons_zero, List.set_cons_succ, Nat.zero_add, Nat.reduceAdd]; rw [if_pos (by simp [Region.wanted, yielded, hd])]
      go_simp
      exact ⟨Below.refl _ _, by simp [str_toList, knowing, isV]⟩
    case rts14 =>
      intro v W hE hd; simp only [Region.wanted, ↓reduceIte]; (try simp [deps, waitsOn, Region.binds, knowing, isV, ownsV, anyV] at hd); simp only [putAll, List.take_succ_cons, List.take_zero, List.drop_succ_cons, List.drop_zero, Act.put, List.setIfInBounds_toArray, List.set_cons_zero, List.set_cons_succ, Nat.zero_add, Nat.reduceAdd]
      go_simp
      exact ⟨Below.refl _ _, rfl⟩
    all_goals (intro v W hE hd; simp only [Region.wanted, ↓reduceIte]; (try simp [deps, waitsOn, Region.binds, knowing, isV, ownsV, anyV] at hd); simp only [putAll, List.take_succ_cons, List.take_zero, List.drop_succ_cons, List.drop_zero, Act.put, List.setIfInBounds_toArray, List.set_cons_zero, List.set_cons_succ, Nat.zero_add, Nat.reduceAdd]; go_simp; exact ⟨Below.refl _ _, rfl⟩)
  case rtfin =>
    rintro v w6 hE hall
    have e15 : v 15 = .bool (x == y) := by
      obtain ⟨_, _, _, _, _, _, _, _, _, _, _, _, _, _, _, h, _⟩ := hall
      rw [← Hbeg.out]
      exact h
    simp only [putAll, List.take_succ_cons, List.take_zero, List.drop_succ_cons, List.drop_zero, Act.put, List.setIfInBounds_toArray, List.set_cons_zero, List.set_cons_succ, Nat.zero_add, Nat.reduceAdd]
    rw [e15]
    cases hq : (x == y)
    all_goals
      have HBf := hid (below_all HB5.out hE)
      have e1 := run_str_at Hx.out ((Hbx.out.below HB5.out).below hE) C1
      have e2 := run_str_at Hy.out ((Hby.out.below HB5.out).below hE) C2
      have e7 := str_toList x
      have e8 := str_toList y
      clear hE hall e15
      go_wp2
      go_ret
      exact ⟨rfl, HBf.out⟩
end Go.Proofs.Ytjfggfmhchoobaa
