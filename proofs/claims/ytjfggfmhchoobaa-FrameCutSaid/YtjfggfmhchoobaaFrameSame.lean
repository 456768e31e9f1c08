/- The walk of the reference's Same. -/
import Derived.Test.YtjfggfmhchoobaaFrame6
import Derived.Test.YtjfggfmhchoobaaCrcXor
namespace Go.Proofs.Ytjfggfmhchoobaa
open Go Go.RowKit
set_option linter.unusedSimpArgs false
set_option linter.unusedVariables false

theorem SlR.getB {w : World} {K : Nat → Prop} {A : Option Addr} {n c : Nat} {xs : List (List UInt8)} (h : SlR (Rep.slice Rep.u8) w K A n c xs) (i : Nat) (hi : i < xs.length) :
    ∃ b o A' c', A = some ⟨b, o, none⟩ ∧ w.cell? ⟨b, o + i, none⟩ = some (.slice A' (xs[i]'hi).length c') ∧ (xs[i]'hi).length ≤ c' ∧ RB w A' (xs[i]'hi) := by
  obtain ⟨b, o, d, hA, -, hr, hg⟩ := h.get (by decide) i hi
  obtain ⟨A', c', ds, rfl, h1, -, h3, h4⟩ := hr
  have := rows_u8_eq h3
  subst this
  refine ⟨b, o, A', c', hA, ?_, h1, h4.rv⟩
  have := hg 0 _ rfl
  rwa [show i * (Rep.slice Rep.u8).size + 0 = i by show i * 1 + 0 = i; omega] at this

set_option maxRecDepth 100000 in
set_option maxHeartbeats 2000000 in
theorem same_at (A1 : Option Addr) (n1 c1 : Nat) (xs : List (List UInt8)) (A2 : Option Addr) (n2 c2 : Nat) (ys : List (List UInt8)) (w : World)
    (hm : n1 ≤ 140737488000000) (h1 : SlR (Rep.slice Rep.u8) w (· < w.heap.size) A1 n1 c1 xs) (h2 : SlR (Rep.slice Rep.u8) w (· < w.heap.size) A2 n2 c2 ys) :
    Calls Try.prog 32 #[.slice A1 n1 c1, .slice A2 n2 c2] w fun e w' => e = .returned (.bool (decide (xs = ys))) ∧ Ext w w' := by
  have hn1 := h1.1; have hn2 := h2.1
  have h1' := hid h1; have h2' := hid h2; clear h1 h2
  by_cases hnn : n1 = n2
  rotate_left
  · have hne : ¬ xs = ys := fun e => hnn (by rw [hn1, hn2, e])
    have Hne := hid hne
    have hnI : ((n1 : Int) == (n2 : Int)) = false := by rw [beq_eq_false_iff_ne]; omega
    have hnI' : ((n1 : Int) != (n2 : Int)) = true := by rw [bne_iff_ne]; omega
    clear hne hn1 hn2
    go_enter Try.func32, Try.ntmps32
    go_wp2
    go_ret
    exact ⟨by rw [decide_eq_false Hne.out]; rfl, Below.refl _ _⟩
  subst hnn
  have Hn1 := hid hn1; have Hn2 := hid hn2; clear hn1 hn2
  go_enter Try.func32, Try.ntmps32
  go_wp2_with fail
  go_loopw [5] (fun i wr => ∃ k : Nat, k ≤ n1 ∧ i = .int .i64 k ∧ Hid (xs.take k = ys.take k) ∧ Hid (Ext w wr)) (fun i _ => n1 - (intOf i).toNat)
  case atStart => exact ⟨0, by omega, rfl, hid rfl, Below.refl _ _⟩
  case round =>
    obtain ⟨k, hk, rfl, Htk, HB⟩ := hrel
    by_cases hlt : k < n1
    rotate_left
    · have heq : xs = ys := by
        have h := Htk.out
        rw [List.take_of_length_le (by have := Hn1.out; omega), List.take_of_length_le (by have := Hn2.out; omega)] at h
        exact h
      have Heq := hid heq
      clear heq
      have hge : (n1 : Int) ≤ (k : Int) := by omega
      go_wp2
      go_ret
      exact ⟨by rw [decide_eq_true Heq.out]; rfl, HB.out⟩
    have hk1 : k < xs.length := by have := Hn1.out; omega
    have hk2 : k < ys.length := by have := Hn2.out; omega
    obtain ⟨g1, o1, X1, d1, rfl, hc1, -, hr1⟩ := h1'.out.getB k hk1
    obtain ⟨g2, o2, X2, d2, rfl, hc2, -, hr2⟩ := h2'.out.getB k hk2
    obtain ⟨x, hx⟩ : ∃ x, x = xs[k] := ⟨_, rfl⟩
    obtain ⟨y, hy⟩ : ∃ y, y = ys[k] := ⟨_, rfl⟩
    rw [← hx] at hc1 hr1
    rw [← hy] at hc2 hr2
    have Hx := hid hx; have Hy := hid hy; clear hx hy
    have H1 := hid (cell_below HB.out hc1); have H2 := hid (cell_below HB.out hc2)
    have R1 := hid (hr1.below HB.out); have R2 := hid (hr2.below HB.out)
    clear hc1 hc2 hr1 hr2
    have hltI : (k : Int) < (n1 : Int) := by omega
    go_wp2_with fail
    refine wp_drawn [isV (.slice (some ⟨g1, o1, none⟩) n1 c1), isV (.int .i64 (k : Int)), isV (.pointer (some ⟨g1, o1 + k, none⟩)), isV (.slice X1 x.length d1), isV (.string (str x)), isV (.slice (some ⟨g2, o2, none⟩) n1 c2), isV (.int .i64 (k : Int)), isV (.pointer (some ⟨g2, o2 + k, none⟩)), isV (.slice X2 y.length d2), isV (.string (str y)), isV (.bool (!(x == y)))] (by kernel_rfl) ?r6hok ?r6steps ?r6fin
    case r6hok => kernel_rfl
    case r6steps =>
      refine ⟨?r6s0, ?r6s1, ?r6s2, ?r6s3, ?r6s4, ?r6s5, ?r6s6, ?r6s7, ?r6s8, ?r6s9, ?r6s10, trivial⟩
      case r6s2 =>
        intro v W hE hd; simp only [Region.wanted, ↓reduceIte]; (try simp [deps, waitsOn, Region.binds, knowing, isV, ownsV, anyV] at hd); simp only [putAll, List.take_succ_cons, List.take_zero, List.drop_succ_cons, List.drop_zero, Act.put, List.setIfInBounds_toArray, List.set_cons_zero, List.set_cons_succ, Nat.zero_add, Nat.reduceAdd]
        go_simp
        exact ⟨Below.refl _ _, rfl⟩
      case r6s3 =>
        intro v W hE hd; simp only [Region.wanted, ↓reduceIte]; (try simp [deps, waitsOn, Region.binds, knowing, isV, ownsV, anyV] at hd); simp only [putAll, List.take_succ_cons, List.take_zero, List.drop_succ_cons, List.drop_zero, Act.put, List.setIfInBounds_toArray, List.set_cons_zero, List.set_cons_succ, Nat.zero_add, Nat.reduceAdd]
        have e1 := cell_below hE H1.out
        go_simp
        exact ⟨Below.refl _ _, rfl⟩
      case r6s4 =>
        intro v W hE hd; simp only [Region.wanted, ↓reduceIte]; (try simp [deps, waitsOn, Region.binds, knowing, isV, ownsV, anyV] at hd); simp only [putAll, List.take_succ_cons, List.take_zero, List.drop_succ_cons, List.drop_zero, Act.put, List.setIfInBounds_toArray, List.set_cons_zero, List.set_cons_succ, Nat.zero_add, Nat.reduceAdd]
        have e1 := run_str (R1.out.below hE) d1
        go_simp
        exact ⟨Below.refl _ _, rfl⟩
      case r6s7 =>
        intro v W hE hd; simp only [Region.wanted, ↓reduceIte]; (try simp [deps, waitsOn, Region.binds, knowing, isV, ownsV, anyV] at hd); simp only [putAll, List.take_succ_cons, List.take_zero, List.drop_succ_cons, List.drop_zero, Act.put, List.setIfInBounds_toArray, List.set_cons_zero, List.set_cons_succ, Nat.zero_add, Nat.reduceAdd]
        go_simp
        exact ⟨Below.refl _ _, rfl⟩
      case r6s8 =>
        intro v W hE hd; simp only [Region.wanted, ↓reduceIte]; (try simp [deps, waitsOn, Region.binds, knowing, isV, ownsV, anyV] at hd); simp only [putAll, List.take_succ_cons, List.take_zero, List.drop_succ_cons, List.drop_zero, Act.put, List.setIfInBounds_toArray, List.set_cons_zero, List.set_cons_succ, Nat.zero_add, Nat.reduceAdd]
        have e1 := cell_below hE H2.out
        go_simp
        exact ⟨Below.refl _ _, rfl⟩
      case r6s9 =>
        intro v W hE hd; simp only [Region.wanted, ↓reduceIte]; (try simp [deps, waitsOn, Region.binds, knowing, isV, ownsV, anyV] at hd); simp only [putAll, List.take_succ_cons, List.take_zero, List.drop_succ_cons, List.drop_zero, Act.put, List.setIfInBounds_toArray, List.set_cons_zero, List.set_cons_succ, Nat.zero_add, Nat.reduceAdd]
        have e1 := run_str (R2.out.below hE) d2
        go_simp
        exact ⟨Below.refl _ _, rfl⟩
      case r6s10 =>
        intro v W hE hd; simp only [Region.wanted, ↓reduceIte]; (try simp [deps, waitsOn, Region.binds, knowing, isV, ownsV, anyV] at hd); simp only [putAll, List.take_succ_cons, List.take_zero, List.drop_succ_cons, List.drop_zero, Act.put, List.setIfInBounds_toArray, List.set_cons_zero, List.set_cons_succ, Nat.zero_add, Nat.reduceAdd]
        go_simp
        exact ⟨Below.refl _ _, by simp [str_toList, knowing, isV, bne]⟩
      all_goals (intro v W hE hd; simp only [Region.wanted, ↓reduceIte]; (try simp [deps, waitsOn, Region.binds, knowing, isV, ownsV, anyV] at hd); simp only [putAll, List.take_succ_cons, List.take_zero, List.drop_succ_cons, List.drop_zero, Act.put, List.setIfInBounds_toArray, List.set_cons_zero, List.set_cons_succ, Nat.zero_add, Nat.reduceAdd]; go_simp; exact ⟨Below.refl _ _, rfl⟩)
    case r6fin =>
      rintro v w2 hE hall
      have e10 : v 10 = .bool (!(x == y)) := by
        obtain ⟨_, _, _, _, _, _, _, _, _, _, h, _⟩ := hall
        exact h
      simp only [putAll, List.take_succ_cons, List.take_zero, List.drop_succ_cons, List.drop_zero, Act.put, List.setIfInBounds_toArray, List.set_cons_zero, List.set_cons_succ, Nat.zero_add, Nat.reduceAdd]
      rw [e10]
      have HE2 := hid (below_all HB.out hE)
      clear hall e10 hE
      cases hq : (x == y)
      · have hne : ¬ xs = ys := fun e => by
          have h1 := (beq_eq_false_iff_ne.1 hq)
          exact h1 (by rw [Hx.out, Hy.out]; simp only [e])
        have Hne := hid hne
        clear hne hq
        go_wp2
        go_ret
        exact ⟨by rw [decide_eq_false Hne.out]; rfl, HE2.out⟩
      · have hxy : x = y := beq_iff_eq.1 hq
        have Hxy := hid hxy
        clear hxy hq
        go_wp2_with fail
        go_roundw
        case rel =>
          refine ⟨k + 1, by omega, rfl, ?_, HE2⟩
          show _ = _
          rw [List.take_add_one, List.take_add_one, Htk.out, List.getElem?_eq_getElem hk1, List.getElem?_eq_getElem hk2, ← Hx.out, ← Hy.out, Hxy.out]
        case measure => simp [intOf]; omega
end Go.Proofs.Ytjfggfmhchoobaa
