/- Texts: two rows of texts are the same. -/
import Derived.Test.YtakebdeldndaaaaGreatFound
namespace Go.Proofs.YtakebdeldndaaaaGreat
open Go Go.RowKit
set_option linter.unusedSimpArgs false
set_option linter.unusedVariables false

set_option maxRecDepth 100000 in
set_option maxHeartbeats 2000000 in
theorem texts_at {w : World} {K K' : Nat → Prop} {A B : Option Addr} {n m c c' : Nat} {xs ys : List (List UInt8)} (ha : SlR Rep.str w K A n c xs) (hb : SlR Rep.str w K' B m c' ys) :
    Calls Tryz.prog 57 #[.slice A n c, .slice B m c'] w fun e w' => e = .returned (.bool (decide (xs = ys))) ∧ Ext w w' := by
  have hst := str_toList
  have hn := hid ha.1
  have hm := hid hb.1
  have hnc := ha.2.1
  have hmc := hb.2.1
  have hcm := ha.2.2.1
  have HA := hid ha
  have HB := hid hb
  clear ha hb
  go_enter Tryz.func57, Tryz.ntmps57
  by_cases hnm : n = m
  · subst hnm
    go_wp2_with fail
    go_loopw [5] (fun i wr => ∃ k : Nat, k ≤ n ∧ i = .int .i64 (k : Int) ∧ Hid (Ext w wr) ∧ Hid (∀ j (hj : j < k) (h1 : j < xs.length) (h2 : j < ys.length), xs[j] = ys[j])) (fun i _ => n - (intOf i).toNat)
    case atStart => exact ⟨0, by omega, rfl, Below.refl _ _, fun j hj => by omega⟩
    case round =>
      obtain ⟨k, hk, rfl, HX, HE⟩ := hrel
      by_cases hlt : k < n
      · have hkx : k < xs.length := by have := hn.out; omega
        have hky : k < ys.length := by have := hm.out; omega
        obtain ⟨b1, o1, rfl, -, f1⟩ := strs_at HA.out k hkx
        obtain ⟨b2, o2, rfl, -, f2⟩ := strs_at HB.out k hky
        have F1 := hid (cell_later HX.out f1)
        have F2 := hid (cell_later HX.out f2)
        clear f1 f2
        have hlt' : (k : Int) < (n : Int) := by omega
        have hk00 : ¬ ((k : Int) < 0) := by omega
        have hk0 : (0 : Int) ≤ (k : Int) := by omega
        by_cases he : xs[k] = ys[k]
        · have hnext : Hid (∀ j (hj : j < k + 1) (h1 : j < xs.length) (h2 : j < ys.length), xs[j] = ys[j]) := fun j hj h1 h2 => by
            rcases Nat.lt_succ_iff_lt_or_eq.1 hj with h | rfl
            · exact HE.out j h h1 h2
            · exact he
          rw [← he] at F2
          generalize xs[k] = a at F1 F2
          clear he HE
          go_wp2_with fail
          apply wp_drawn [isV _, isV _, isV _, isV _, isV _, isV _, isV _, isV _, isV _] (by kernel_rfl)
          · kernel_rfl
          · refine ⟨?tx1s0, ?tx1s1, ?tx1s2, ?tx1s3, ?tx1s4, ?tx1s5, ?tx1s6, ?tx1s7, ?tx1s8, trivial⟩
            case tx1s0 =>
              intro v W hE hd; simp only [Region.wanted, ↓reduceIte]; (try simp [deps, waitsOn, Region.binds, knowing, isV, ownsV, anyV] at hd); simp only [putAll, List.take_succ_cons, List.take_zero, List.drop_succ_cons, List.drop_zero, Act.put, List.setIfInBounds_toArray, List.set_cons_zero, List.set_cons_succ, Nat.zero_add, Nat.reduceAdd]; go_simp; exact ⟨Below.refl _ _, rfl⟩
            case tx1s1 =>
              intro v W hE hd; simp only [Region.wanted, ↓reduceIte]; (try simp [deps, waitsOn, Region.binds, knowing, isV, ownsV, anyV] at hd); simp only [putAll, List.take_succ_cons, List.take_zero, List.drop_succ_cons, List.drop_zero, Act.put, List.setIfInBounds_toArray, List.set_cons_zero, List.set_cons_succ, Nat.zero_add, Nat.reduceAdd]; go_simp; exact ⟨Below.refl _ _, rfl⟩
            case tx1s2 =>
              intro v W hE hd; simp only [Region.wanted, ↓reduceIte]; (try simp [deps, waitsOn, Region.binds, knowing, isV, ownsV, anyV] at hd); simp only [putAll, List.take_succ_cons, List.take_zero, List.drop_succ_cons, List.drop_zero, Act.put, List.setIfInBounds_toArray, List.set_cons_zero, List.set_cons_succ, Nat.zero_add, Nat.reduceAdd]; go_simp; exact ⟨Below.refl _ _, rfl⟩
            case tx1s3 =>
              intro v W hE hd; simp only [Region.wanted, ↓reduceIte]; (try simp [deps, waitsOn, Region.binds, knowing, isV, ownsV, anyV] at hd); simp only [putAll, List.take_succ_cons, List.take_zero, List.drop_succ_cons, List.drop_zero, Act.put, List.setIfInBounds_toArray, List.set_cons_zero, List.set_cons_succ, Nat.zero_add, Nat.reduceAdd]
              have e1 := cell_later hE F1.out
              go_simp
              exact ⟨Below.refl _ _, rfl⟩
            case tx1s4 =>
              intro v W hE hd; simp only [Region.wanted, ↓reduceIte]; (try simp [deps, waitsOn, Region.binds, knowing, isV, ownsV, anyV] at hd); simp only [putAll, List.take_succ_cons, List.take_zero, List.drop_succ_cons, List.drop_zero, Act.put, List.setIfInBounds_toArray, List.set_cons_zero, List.set_cons_succ, Nat.zero_add, Nat.reduceAdd]; go_simp; exact ⟨Below.refl _ _, rfl⟩
            case tx1s5 =>
              intro v W hE hd; simp only [Region.wanted, ↓reduceIte]; (try simp [deps, waitsOn, Region.binds, knowing, isV, ownsV, anyV] at hd); simp only [putAll, List.take_succ_cons, List.take_zero, List.drop_succ_cons, List.drop_zero, Act.put, List.setIfInBounds_toArray, List.set_cons_zero, List.set_cons_succ, Nat.zero_add, Nat.reduceAdd]; go_simp; exact ⟨Below.refl _ _, rfl⟩
            case tx1s6 =>
              intro v W hE hd; simp only [Region.wanted, ↓reduceIte]; (try simp [deps, waitsOn, Region.binds, knowing, isV, ownsV, anyV] at hd); simp only [putAll, List.take_succ_cons, List.take_zero, List.drop_succ_cons, List.drop_zero, Act.put, List.setIfInBounds_toArray, List.set_cons_zero, List.set_cons_succ, Nat.zero_add, Nat.reduceAdd]; go_simp; exact ⟨Below.refl _ _, rfl⟩
            case tx1s7 =>
              intro v W hE hd; simp only [Region.wanted, ↓reduceIte]; (try simp [deps, waitsOn, Region.binds, knowing, isV, ownsV, anyV] at hd); simp only [putAll, List.take_succ_cons, List.take_zero, List.drop_succ_cons, List.drop_zero, Act.put, List.setIfInBounds_toArray, List.set_cons_zero, List.set_cons_succ, Nat.zero_add, Nat.reduceAdd]
              have e1 := cell_later hE F2.out
              go_simp
              exact ⟨Below.refl _ _, rfl⟩
            case tx1s8 =>
              intro v W hE hd; simp only [Region.wanted, ↓reduceIte]; (try simp [deps, waitsOn, Region.binds, knowing, isV, ownsV, anyV] at hd); simp only [putAll, List.take_succ_cons, List.take_zero, List.drop_succ_cons, List.drop_zero, Act.put, List.setIfInBounds_toArray, List.set_cons_zero, List.set_cons_succ, Nat.zero_add, Nat.reduceAdd]; go_simp; exact ⟨Below.refl _ _, rfl⟩
          · rintro v W6 hE ⟨-, -, -, -, -, -, -, -, e8, -⟩
            have e8 := (show v 8 = _ from e8)
            simp only [putAll, List.take_succ_cons, List.take_zero, List.drop_succ_cons, List.drop_zero, Act.put, List.setIfInBounds_toArray, List.set_cons_zero, List.set_cons_succ, Nat.zero_add, Nat.reduceAdd]
            rw [e8]
            clear e8
            go_wp2_with fail
            go_roundw
            case rel => exact ⟨k + 1, by omega, by go_num, HX.out.trans (hE.mono HX.out.size), hnext⟩
            case measure => simp [intOf]; omega
        · have hres := hid (show decide (xs = ys) = false from decide_eq_false fun e => he (by subst e; rfl))
          have heq : (xs[k] == ys[k]) = false := beq_eq_false_iff_ne.2 he
          generalize xs[k] = a at F1 heq
          generalize ys[k] = a' at F2 heq
          clear he HE
          go_wp2_with fail
          apply wp_drawn [isV _, isV _, isV _, isV _, isV _, isV _, isV _, isV _, isV _] (by kernel_rfl)
          · kernel_rfl
          · refine ⟨?tx2s0, ?tx2s1, ?tx2s2, ?tx2s3, ?tx2s4, ?tx2s5, ?tx2s6, ?tx2s7, ?tx2s8, trivial⟩
            case tx2s0 =>
              intro v W hE hd; simp only [Region.wanted, ↓reduceIte]; (try simp [deps, waitsOn, Region.binds, knowing, isV, ownsV, anyV] at hd); simp only [putAll, List.take_succ_cons, List.take_zero, List.drop_succ_cons, List.drop_zero, Act.put, List.setIfInBounds_toArray, List.set_cons_zero, List.set_cons_succ, Nat.zero_add, Nat.reduceAdd]; go_simp; exact ⟨Below.refl _ _, rfl⟩
            case tx2s1 =>
              intro v W hE hd; simp only [Region.wanted, ↓reduceIte]; (try simp [deps, waitsOn, Region.binds, knowing, isV, ownsV, anyV] at hd); simp only [putAll, List.take_succ_cons, List.take_zero, List.drop_succ_cons, List.drop_zero, Act.put, List.setIfInBounds_toArray, List.set_cons_zero, List.set_cons_succ, Nat.zero_add, Nat.reduceAdd]; go_simp; exact ⟨Below.refl _ _, rfl⟩
            case tx2s2 =>
              intro v W hE hd; simp only [Region.wanted, ↓reduceIte]; (try simp [deps, waitsOn, Region.binds, knowing, isV, ownsV, anyV] at hd); simp only [putAll, List.take_succ_cons, List.take_zero, List.drop_succ_cons, List.drop_zero, Act.put, List.setIfInBounds_toArray, List.set_cons_zero, List.set_cons_succ, Nat.zero_add, Nat.reduceAdd]; go_simp; exact ⟨Below.refl _ _, rfl⟩
            case tx2s3 =>
              intro v W hE hd; simp only [Region.wanted, ↓reduceIte]; (try simp [deps, waitsOn, Region.binds, knowing, isV, ownsV, anyV] at hd); simp only [putAll, List.take_succ_cons, List.take_zero, List.drop_succ_cons, List.drop_zero, Act.put, List.setIfInBounds_toArray, List.set_cons_zero, List.set_cons_succ, Nat.zero_add, Nat.reduceAdd]
              have e1 := cell_later hE F1.out
              go_simp
              exact ⟨Below.refl _ _, rfl⟩
            case tx2s4 =>
              intro v W hE hd; simp only [Region.wanted, ↓reduceIte]; (try simp [deps, waitsOn, Region.binds, knowing, isV, ownsV, anyV] at hd); simp only [putAll, List.take_succ_cons, List.take_zero, List.drop_succ_cons, List.drop_zero, Act.put, List.setIfInBounds_toArray, List.set_cons_zero, List.set_cons_succ, Nat.zero_add, Nat.reduceAdd]; go_simp; exact ⟨Below.refl _ _, rfl⟩
            case tx2s5 =>
              intro v W hE hd; simp only [Region.wanted, ↓reduceIte]; (try simp [deps, waitsOn, Region.binds, knowing, isV, ownsV, anyV] at hd); simp only [putAll, List.take_succ_cons, List.take_zero, List.drop_succ_cons, List.drop_zero, Act.put, List.setIfInBounds_toArray, List.set_cons_zero, List.set_cons_succ, Nat.zero_add, Nat.reduceAdd]; go_simp; exact ⟨Below.refl _ _, rfl⟩
            case tx2s6 =>
              intro v W hE hd; simp only [Region.wanted, ↓reduceIte]; (try simp [deps, waitsOn, Region.binds, knowing, isV, ownsV, anyV] at hd); simp only [putAll, List.take_succ_cons, List.take_zero, List.drop_succ_cons, List.drop_zero, Act.put, List.setIfInBounds_toArray, List.set_cons_zero, List.set_cons_succ, Nat.zero_add, Nat.reduceAdd]; go_simp; exact ⟨Below.refl _ _, rfl⟩
            case tx2s7 =>
              intro v W hE hd; simp only [Region.wanted, ↓reduceIte]; (try simp [deps, waitsOn, Region.binds, knowing, isV, ownsV, anyV] at hd); simp only [putAll, List.take_succ_cons, List.take_zero, List.drop_succ_cons, List.drop_zero, Act.put, List.setIfInBounds_toArray, List.set_cons_zero, List.set_cons_succ, Nat.zero_add, Nat.reduceAdd]
              have e1 := cell_later hE F2.out
              go_simp
              exact ⟨Below.refl _ _, rfl⟩
            case tx2s8 =>
              intro v W hE hd; simp only [Region.wanted, ↓reduceIte]; (try simp [deps, waitsOn, Region.binds, knowing, isV, ownsV, anyV] at hd); simp only [putAll, List.take_succ_cons, List.take_zero, List.drop_succ_cons, List.drop_zero, Act.put, List.setIfInBounds_toArray, List.set_cons_zero, List.set_cons_succ, Nat.zero_add, Nat.reduceAdd]; go_simp; exact ⟨Below.refl _ _, rfl⟩
          · rintro v W6 hE ⟨-, -, -, -, -, -, -, -, e8, -⟩
            have e8 := (show v 8 = _ from e8)
            simp only [putAll, List.take_succ_cons, List.take_zero, List.drop_succ_cons, List.drop_zero, Act.put, List.setIfInBounds_toArray, List.set_cons_zero, List.set_cons_succ, Nat.zero_add, Nat.reduceAdd]
            rw [e8]
            clear e8
            go_wp2
            go_ret
            exact ⟨by rw [hres.out]; rfl, HX.out.trans (hE.mono HX.out.size)⟩
      · obtain rfl : k = n := by omega
        have hres := hid (show decide (xs = ys) = true from decide_eq_true (List.ext_getElem (by rw [← hn.out, ← hm.out]) fun j h1 h2 => HE.out j (by have := hn.out; omega) h1 h2))
        have hlt' : ¬ ((k : Int) < (k : Int)) := by omega
        go_wp2
        go_ret
        exact ⟨by rw [hres.out]; rfl, HX.out⟩
  · have hres := hid (show decide (xs = ys) = false from decide_eq_false fun e => hnm (by rw [hn.out, hm.out, e]))
    have hne : ¬ ((n : Int) = (m : Int)) := by omega
    go_wp2
    go_ret
    exact ⟨by rw [hres.out]; rfl, Below.refl _ _⟩
end Go.Proofs.YtakebdeldndaaaaGreat
