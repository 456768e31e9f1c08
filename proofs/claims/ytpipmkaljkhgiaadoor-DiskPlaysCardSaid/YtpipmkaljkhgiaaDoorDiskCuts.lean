/- The walk of DiskCuts. -/
import Derived.Test.YtpipmkaljkhgiaaDoorDiskShown
import Derived.Test.YtpipmkaljkhgiaaDoorFound
namespace Go.Proofs.YtpipmkaljkhgiaaDoor
open Go Go.RowKit
set_option linter.unusedSimpArgs false
set_option linter.unusedVariables false

theorem str_append (a b : List UInt8) : str a ++ str b = str (a ++ b) := by
  apply ByteArray.ext
  apply Array.ext'
  simp [str, ByteArray.data_append]
theorem trunc_bad {nm : List UInt8} {f : File} {t : Int} (h : t < 0 ∨ (f.b.length : Int) < t) : truncEF (-1) [(nm, f)] nm t = 1 ∧ truncF (-1) [(nm, f)] nm t = [(nm, f)] := by
  unfold truncEF truncF
  rw [if_neg (by decide), if_neg (by decide), atF_one]
  exact ⟨if_pos h, if_pos h⟩
theorem trunc_ok {nm : List UInt8} {f : File} {t : Int} (h : ¬ (t < 0 ∨ (f.b.length : Int) < t)) : truncEF (-1) [(nm, f)] nm t = 0 ∧ truncF (-1) [(nm, f)] nm t = [(nm, ⟨f.b.take t.toNat, min f.safe t.toNat⟩)] := by
  unfold truncEF truncF
  rw [if_neg (by decide), if_neg (by decide), atF_one]
  refine ⟨if_neg h, (if_neg h).trans (putF_one _ _ _)⟩
/-- A short argument. -/
theorem InB.short {W : World} {a : Option Addr} {n c : Nat} {bs : List UInt8} (h : InB W a n c bs) : min n 200 = (bs.take 200).length ∧ min n 200 ≤ c ∧ RB W a (bs.take 200) := by
  refine ⟨by rw [List.length_take, h.len]; omega, by have := h.cap; omega, h.read.take 200⟩
set_option maxRecDepth 100000 in
set_option maxHeartbeats 4000000 in
theorem diskCuts_in (A0 : Option Addr) (n0 c0 : Nat) (x : List UInt8) (A1 : Option Addr) (n1 c1 : Nat) (y : List UInt8) (t : Int) (w : World) (h0 : InB w A0 n0 c0 x) (h1 : InB w A1 n1 c1 y) (ht : -9223372036854775808 ≤ t ∧ t ≤ 9223372036854775807) :
    Calls Tryd.prog 3 #[.slice A0 n0 c0, .slice A1 n1 c1, .int .i64 t] w fun e w' => e = .returned (.bool true) ∧ Ext w w' := by
  have hstr : (⟨#[97]⟩ : ByteArray) = str nA := rfl
  obtain ⟨hX, hXc, hXr⟩ := h0.short
  obtain ⟨hY, hYc, hYr⟩ := h1.short
  have hc0 := h0.cap
  have hc1 := h1.cap
  have hs0 := fun w => short_at A0 n0 c0 w hc0
  have hs1 := fun w => short_at A1 n1 c1 w hc1
  clear h0 h1
  obtain ⟨N, hN⟩ : ∃ N, N = min n0 200 := ⟨_, rfl⟩
  obtain ⟨M, hM⟩ : ∃ M, M = min n1 200 := ⟨_, rfl⟩
  have hN200 : N ≤ 200 := by omega
  have hM200 : M ≤ 200 := by omega
  rw [← hN] at hX hXc hs0
  rw [← hM] at hY hYc hs1
  generalize x.take 200 = X at hX hXr
  generalize y.take 200 = Y at hY hYr
  have HX := hid hX; have HY := hid hY; have HXr := hid hXr; have HYr := hid hYr
  clear hX hY hXr hYr hN hM hc0 hc1
  go_enter Tryd.func3, Tryd.ntmps3
  go_wp2_with fail
  refine (shown_at _).mono ?_
  rintro e w1 ⟨rfl, hE⟩
  have HE1 := hid hE; clear hE
  go_wp2_with fail
  refine (run_new HE1.out 4000).mono ?_
  rintro e w2 ⟨d, m, rfl, hR⟩
  rw [show max (4000 : Int) 0 = 4000 by decide] at hR
  have HR := hid hR; clear hR HE1
  go_wp2_with fail
  refine (hs0 _).mono ?_
  rintro e w' ⟨rfl, rfl⟩
  go_wp2_with fail
  refine (hs1 _).mono ?_
  rintro e w' ⟨rfl, rfl⟩
  clear hs0 hs1
  go_wp2_with fail
  have e1 := app_none (q := 4000) (nm := nA) (bs := X) may_nA (by have := HX.out; omega) (by have := HX.out; omega)
  refine (HR.out.append nA (by decide) A0 N c0 X HX.out (by omega) (HR.out.arg HXr.out)).mono ?_
  rintro e w3 ⟨rfl, hR, -⟩
  rw [e1.2, burn_none] at hR
  have HR3 := hid hR; clear hR HR e1
  go_wp2_with fail
  refine (HR3.out.sync nA (by decide)).mono ?_
  rintro e w4 ⟨rfl, hR, -⟩
  rw [burn_none, sync_one] at hR
  have HR4 := hid hR; clear hR HR3
  go_wp2_with fail
  refine (HR4.out.trunc nA (by decide) t).mono ?_
  rintro e w5 ⟨rfl, hR, -⟩
  by_cases hb : t < 0 ∨ (N : Int) < t
  · have e1 := trunc_bad (nm := nA) (f := ⟨X, X.length⟩) (t := t) (by rw [← HX.out]; exact hb)
    rw [burn_none, e1.2] at hR
    rw [e1.1]
    have HR5 := hid hR
    clear hR HR4 e1
    by_cases ht0 : t < 0
    all_goals
      have ht1 : 0 ≤ t → (N : Int) < t := by omega
      try have ht2 := ht1 (by omega)
      clear hb ht1
      go_wp2_with fail
      refine (HR5.out.read nA (by decide)).mono ?_
      rintro e w6 ⟨v, rfl, hO, hE, hR⟩
      rw [(read_one _ _).1, (read_one _ _).2] at *
      obtain ⟨A, c, rfl, -, hr⟩ := OB.read hO
      have hs := run_str hr c
      have hs2 := run_str (hR.arg_rb HXr.out) c0
      have e3 := str_toList X
      rw [← HX.out] at hs hs2 ⊢
      have HR6 := hid hR; clear hR HR5 hO hE hr
      go_wp2
      go_ret
      exact ⟨rfl, HR6.out.below⟩
  have e1 := trunc_ok (nm := nA) (f := ⟨X, X.length⟩) (t := t) (by rw [← HX.out]; exact hb)
  obtain ⟨k, rfl⟩ := Int.eq_ofNat_of_zero_le (show 0 ≤ t by omega)
  have hkN : k ≤ N := by omega
  have hk1 : ¬ ((k : Int) < 0) := by omega
  have hk2 : ¬ ((N : Int) < (k : Int)) := by omega
  rw [burn_none, e1.2, Int.toNat_natCast, show min X.length k = k by have := HX.out; omega] at hR
  rw [e1.1]
  have HR5 := hid hR
  clear hR HR4 e1 hb
  have hXk : (X.take k).length = k := by rw [List.length_take]; have := HX.out; omega
  have HXk := hid hXk
  have HXkr := hid (HXr.out.take k)
  generalize X.take k = Z at HR5 hXk HXk HXkr
  clear hXk
  go_wp2_with fail
  have e1 := app_one (q := 4000) (nm := nA) (f := ⟨Z, k⟩) (bs := Y) may_nA (by have := HXk.out; have := HY.out; show Z.length + Y.length ≤ 65536; omega) (by have := HXk.out; have := HY.out; show ((Z.length + Y.length : Nat) : Int) ≤ 4000; omega)
  refine (HR5.out.append nA (by decide) A1 M c1 Y HY.out (by omega) (HR5.out.arg HYr.out)).mono ?_
  rintro e w6 ⟨rfl, hR, -⟩
  rw [e1.2, burn_none] at hR
  have HR6 := hid hR; clear hR HR5 e1
  go_wp2_with fail
  refine (HR6.out.read nA (by decide)).mono ?_
  rintro e w7 ⟨v1, rfl, hO, hE, hR⟩
  rw [(read_one _ _).1, (read_one _ _).2] at *
  obtain ⟨A2, c2, rfl, hc2, hr⟩ := rs_own hO HR6.out.is.fresh
  obtain ⟨n2, hn2⟩ : ∃ n2, n2 = (Z ++ Y).length := ⟨_, rfl⟩
  rw [← hn2]
  have Hn2 := hid hn2
  have Hr2 := hid hr
  have HR7 := hid hR; clear hR HR6 hO hE hr hn2
  go_wp2_with fail
  refine (HR7.out.crash 0 (by decide)).mono ?_
  rintro e w8 ⟨rfl, hR, hK⟩
  rw [crash_one, show crash1 0 ⟨Z ++ Y, k⟩ = ⟨Z, k⟩ by
    unfold crash1 crashN
    simp only [show (max (0 : Int) 0).toNat = 0 by decide, Nat.zero_min, Nat.add_zero]
    rw [List.take_left' HXk.out]] at hR
  have HR8 := hid hR
  have Hr28 := hid (RS.kept Hr2.out hK HR7.out.is.own HR7.out.is.ownM)
  clear hR HR7 hK Hr2
  go_wp2_with fail
  refine (HR8.out.read nA (by decide)).mono ?_
  rintro e w9 ⟨v1, rfl, hO, hE, hR⟩
  rw [(read_one _ _).1, (read_one _ _).2] at *
  obtain ⟨A3, c3, rfl, hc3, hr⟩ := rs_own hO HR8.out.is.fresh
  obtain ⟨n3, hn3⟩ : ∃ n3, n3 = Z.length := ⟨_, rfl⟩
  rw [← hn3]
  have Hn3 := hid hn3
  have Hr3 := hid hr.rv
  have Hr29 := hid (RB.below (RK.rv Hr28.out) hE)
  have HR9 := hid hR; clear hR HR8 hO hE hr hn3
  have HX9 := hid (HR9.out.arg_rb HXkr.out)
  have HY9 := hid (HR9.out.arg_rb HYr.out)
  go_wp2_with fail
  apply wp_drawn [isV _, isV _, isV _, isV _, isV _, isV _, isV _, isV _, isV _, isV _, isV _, isV (.string (str (Z ++ Y))), isV _, isV _, isV _, isV _, isV _, isV _, isV _, isV _, isV _, isV _, isV _, isV _] (by kernel_rfl)
  · kernel_rfl
  · refine ⟨?r17s0, ?r17s1, ?r17s2, ?r17s3, ?r17s4, ?r17s5, ?r17s6, ?r17s7, ?r17s8, ?r17s9, ?r17s10, ?r17s11, ?r17s12, ?r17s13, ?r17s14, ?r17s15, ?r17s16, ?r17s17, ?r17s18, ?r17s19, ?r17s20, ?r17s21, ?r17s22, ?r17s23, trivial⟩
    case r17s0 =>
      intro v W hE hd; simp only [Region.wanted, ↓reduceIte]; (try simp [deps, waitsOn, Region.binds, knowing, isV, ownsV, anyV] at hd); simp only [putAll, List.take_succ_cons, List.take_zero, List.drop_succ_cons, List.drop_zero, Act.put, List.setIfInBounds_toArray, List.set_cons_zero, List.set_cons_succ, Nat.zero_add, Nat.reduceAdd]; go_simp; exact ⟨Below.refl _ _, rfl⟩
    case r17s1 =>
      intro v W hE hd; simp only [Region.wanted, ↓reduceIte]; (try simp [deps, waitsOn, Region.binds, knowing, isV, ownsV, anyV] at hd); simp only [putAll, List.take_succ_cons, List.take_zero, List.drop_succ_cons, List.drop_zero, Act.put, List.setIfInBounds_toArray, List.set_cons_zero, List.set_cons_succ, Nat.zero_add, Nat.reduceAdd]; go_simp; exact ⟨Below.refl _ _, rfl⟩
    case r17s2 =>
      intro v W hE hd; simp only [Region.wanted, ↓reduceIte]; (try simp [deps, waitsOn, Region.binds, knowing, isV, ownsV, anyV] at hd); simp only [putAll, List.take_succ_cons, List.take_zero, List.drop_succ_cons, List.drop_zero, Act.put, List.setIfInBounds_toArray, List.set_cons_zero, List.set_cons_succ, Nat.zero_add, Nat.reduceAdd]; go_simp; exact ⟨Below.refl _ _, rfl⟩
    case r17s3 =>
      intro v W hE hd; (try simp [deps, waitsOn, Region.binds, knowing, isV, ownsV, anyV] at hd); simp only [putAll, List.take_succ_cons, List.take_zero, List.drop_succ_cons, List.drop_zero, Act.put, List.setIfInBounds_toArray, List.set_cons_zero, List.set_cons_succ, Nat.zero_add, Nat.reduceAdd]; rw [if_pos (by simp [Region.wanted, yielded, hd])]; go_simp; exact ⟨Below.refl _ _, rfl⟩
    case r17s4 =>
      intro v W hE hd; (try simp [deps, waitsOn, Region.binds, knowing, isV, ownsV, anyV] at hd); simp only [putAll, List.take_succ_cons, List.take_zero, List.drop_succ_cons, List.drop_zero, Act.put, List.setIfInBounds_toArray, List.set_cons_zero, List.set_cons_succ, Nat.zero_add, Nat.reduceAdd]; rw [if_pos (by simp [Region.wanted, yielded, hd])]
      have e1 := run_str (RB.below Hr29.out hE) c2
      rw [← Hn2.out] at e1
      go_simp
      exact ⟨Below.refl _ _, rfl⟩
    case r17s5 =>
      intro v W hE hd; (try simp [deps, waitsOn, Region.binds, knowing, isV, ownsV, anyV] at hd); simp only [putAll, List.take_succ_cons, List.take_zero, List.drop_succ_cons, List.drop_zero, Act.put, List.setIfInBounds_toArray, List.set_cons_zero, List.set_cons_succ, Nat.zero_add, Nat.reduceAdd]; rw [if_pos (by simp [Region.wanted, yielded, hd])]; go_simp; exact ⟨Below.refl _ _, rfl⟩
    case r17s6 =>
      intro v W hE hd; (try simp [deps, waitsOn, Region.binds, knowing, isV, ownsV, anyV] at hd); simp only [putAll, List.take_succ_cons, List.take_zero, List.drop_succ_cons, List.drop_zero, Act.put, List.setIfInBounds_toArray, List.set_cons_zero, List.set_cons_succ, Nat.zero_add, Nat.reduceAdd]; rw [if_pos (by simp [Region.wanted, yielded, hd])]; go_simp; exact ⟨Below.refl _ _, rfl⟩
    case r17s7 =>
      intro v W hE hd; (try simp [deps, waitsOn, Region.binds, knowing, isV, ownsV, anyV] at hd); simp only [putAll, List.take_succ_cons, List.take_zero, List.drop_succ_cons, List.drop_zero, Act.put, List.setIfInBounds_toArray, List.set_cons_zero, List.set_cons_succ, Nat.zero_add, Nat.reduceAdd]; rw [if_pos (by simp [Region.wanted, yielded, hd])]
      have e1 : (k : Int) ≤ (c0 : Int) := by omega
      go_simp
      exact ⟨Below.refl _ _, rfl⟩
    case r17s8 =>
      intro v W hE hd; (try simp [deps, waitsOn, Region.binds, knowing, isV, ownsV, anyV] at hd); simp only [putAll, List.take_succ_cons, List.take_zero, List.drop_succ_cons, List.drop_zero, Act.put, List.setIfInBounds_toArray, List.set_cons_zero, List.set_cons_succ, Nat.zero_add, Nat.reduceAdd]; rw [if_pos (by simp [Region.wanted, yielded, hd])]
      have e1 := run_str (RB.below HX9.out hE) c0
      rw [HXk.out] at e1
      go_simp
      exact ⟨Below.refl _ _, rfl⟩
    case r17s9 =>
      intro v W hE hd; (try simp [deps, waitsOn, Region.binds, knowing, isV, ownsV, anyV] at hd); simp only [putAll, List.take_succ_cons, List.take_zero, List.drop_succ_cons, List.drop_zero, Act.put, List.setIfInBounds_toArray, List.set_cons_zero, List.set_cons_succ, Nat.zero_add, Nat.reduceAdd]; rw [if_pos (by simp [Region.wanted, yielded, hd])]; go_simp; exact ⟨Below.refl _ _, rfl⟩
    case r17s10 =>
      intro v W hE hd; (try simp [deps, waitsOn, Region.binds, knowing, isV, ownsV, anyV] at hd); simp only [putAll, List.take_succ_cons, List.take_zero, List.drop_succ_cons, List.drop_zero, Act.put, List.setIfInBounds_toArray, List.set_cons_zero, List.set_cons_succ, Nat.zero_add, Nat.reduceAdd]; rw [if_pos (by simp [Region.wanted, yielded, hd])]
      have e1 := run_str (RB.below HY9.out hE) c1
      rw [← HY.out] at e1
      go_simp
      exact ⟨Below.refl _ _, rfl⟩
    case r17s11 =>
      intro v W hE hd; (try simp [deps, waitsOn, Region.binds, knowing, isV, ownsV, anyV] at hd); simp only [putAll, List.take_succ_cons, List.take_zero, List.drop_succ_cons, List.drop_zero, Act.put, List.setIfInBounds_toArray, List.set_cons_zero, List.set_cons_succ, Nat.zero_add, Nat.reduceAdd]; rw [if_pos (by simp [Region.wanted, yielded, hd])]
      have hsz : ¬ (9223372036854775807 < (str Z).size + (str Y).size) := by rw [str_size, str_size]; have := HXk.out; have := HY.out; omega
      go_simp
      exact ⟨Below.refl _ _, by rw [← str_append]; rfl⟩
    case r17s12 =>
      intro v W hE hd; (try simp [deps, waitsOn, Region.binds, knowing, isV, ownsV, anyV] at hd); simp only [putAll, List.take_succ_cons, List.take_zero, List.drop_succ_cons, List.drop_zero, Act.put, List.setIfInBounds_toArray, List.set_cons_zero, List.set_cons_succ, Nat.zero_add, Nat.reduceAdd]; rw [if_pos (by simp [Region.wanted, yielded, hd])]
      go_simp
      exact ⟨Below.refl _ _, rfl⟩
    case r17s13 =>
      intro v W hE hd; simp only [Region.wanted, ↓reduceIte]; (try simp [deps, waitsOn, Region.binds, knowing, isV, ownsV, anyV] at hd); simp only [putAll, List.take_succ_cons, List.take_zero, List.drop_succ_cons, List.drop_zero, Act.put, List.setIfInBounds_toArray, List.set_cons_zero, List.set_cons_succ, Nat.zero_add, Nat.reduceAdd]; go_simp; exact ⟨Below.refl _ _, rfl⟩
    case r17s14 =>
      intro v W hE hd; simp only [Region.wanted, ↓reduceIte]; (try simp [deps, waitsOn, Region.binds, knowing, isV, ownsV, anyV] at hd); simp only [putAll, List.take_succ_cons, List.take_zero, List.drop_succ_cons, List.drop_zero, Act.put, List.setIfInBounds_toArray, List.set_cons_zero, List.set_cons_succ, Nat.zero_add, Nat.reduceAdd]; go_simp; exact ⟨Below.refl _ _, rfl⟩
    case r17s15 =>
      intro v W hE hd; (try simp [deps, waitsOn, Region.binds, knowing, isV, ownsV, anyV] at hd); simp only [putAll, List.take_succ_cons, List.take_zero, List.drop_succ_cons, List.drop_zero, Act.put, List.setIfInBounds_toArray, List.set_cons_zero, List.set_cons_succ, Nat.zero_add, Nat.reduceAdd]; rw [if_pos (by simp [Region.wanted, yielded, hd])]; go_simp; exact ⟨Below.refl _ _, rfl⟩
    case r17s16 =>
      intro v W hE hd; (try simp [deps, waitsOn, Region.binds, knowing, isV, ownsV, anyV] at hd); simp only [putAll, List.take_succ_cons, List.take_zero, List.drop_succ_cons, List.drop_zero, Act.put, List.setIfInBounds_toArray, List.set_cons_zero, List.set_cons_succ, Nat.zero_add, Nat.reduceAdd]; rw [if_pos (by simp [Region.wanted, yielded, hd])]
      have e1 := run_str (RB.below Hr3.out hE) c3
      rw [← Hn3.out] at e1
      go_simp
      exact ⟨Below.refl _ _, rfl⟩
    case r17s17 =>
      intro v W hE hd; (try simp [deps, waitsOn, Region.binds, knowing, isV, ownsV, anyV] at hd); simp only [putAll, List.take_succ_cons, List.take_zero, List.drop_succ_cons, List.drop_zero, Act.put, List.setIfInBounds_toArray, List.set_cons_zero, List.set_cons_succ, Nat.zero_add, Nat.reduceAdd]; rw [if_pos (by simp [Region.wanted, yielded, hd])]; go_simp; exact ⟨Below.refl _ _, rfl⟩
    case r17s18 =>
      intro v W hE hd; (try simp [deps, waitsOn, Region.binds, knowing, isV, ownsV, anyV] at hd); simp only [putAll, List.take_succ_cons, List.take_zero, List.drop_succ_cons, List.drop_zero, Act.put, List.setIfInBounds_toArray, List.set_cons_zero, List.set_cons_succ, Nat.zero_add, Nat.reduceAdd]; rw [if_pos (by simp [Region.wanted, yielded, hd])]; go_simp; exact ⟨Below.refl _ _, rfl⟩
    case r17s19 =>
      intro v W hE hd; (try simp [deps, waitsOn, Region.binds, knowing, isV, ownsV, anyV] at hd); simp only [putAll, List.take_succ_cons, List.take_zero, List.drop_succ_cons, List.drop_zero, Act.put, List.setIfInBounds_toArray, List.set_cons_zero, List.set_cons_succ, Nat.zero_add, Nat.reduceAdd]; rw [if_pos (by simp [Region.wanted, yielded, hd])]
      have e1 : (k : Int) ≤ (c0 : Int) := by omega
      go_simp
      exact ⟨Below.refl _ _, rfl⟩
    case r17s20 =>
      intro v W hE hd; (try simp [deps, waitsOn, Region.binds, knowing, isV, ownsV, anyV] at hd); simp only [putAll, List.take_succ_cons, List.take_zero, List.drop_succ_cons, List.drop_zero, Act.put, List.setIfInBounds_toArray, List.set_cons_zero, List.set_cons_succ, Nat.zero_add, Nat.reduceAdd]; rw [if_pos (by simp [Region.wanted, yielded, hd])]
      have e1 := run_str (RB.below HX9.out hE) c0
      rw [HXk.out] at e1
      go_simp
      exact ⟨Below.refl _ _, rfl⟩
    case r17s21 =>
      intro v W hE hd; (try simp [deps, waitsOn, Region.binds, knowing, isV, ownsV, anyV] at hd); simp only [putAll, List.take_succ_cons, List.take_zero, List.drop_succ_cons, List.drop_zero, Act.put, List.setIfInBounds_toArray, List.set_cons_zero, List.set_cons_succ, Nat.zero_add, Nat.reduceAdd]; rw [if_pos (by simp [Region.wanted, yielded, hd])]
      go_simp
      exact ⟨Below.refl _ _, rfl⟩
    case r17s22 =>
      intro v W hE hd; simp only [Region.wanted, ↓reduceIte]; (try simp [deps, waitsOn, Region.binds, knowing, isV, ownsV, anyV] at hd); simp only [putAll, List.take_succ_cons, List.take_zero, List.drop_succ_cons, List.drop_zero, Act.put, List.setIfInBounds_toArray, List.set_cons_zero, List.set_cons_succ, Nat.zero_add, Nat.reduceAdd]; go_simp; exact ⟨Below.refl _ _, rfl⟩
    case r17s23 =>
      intro v W hE hd; simp only [Region.wanted, ↓reduceIte]; (try simp [deps, waitsOn, Region.binds, knowing, isV, ownsV, anyV] at hd); simp only [putAll, List.take_succ_cons, List.take_zero, List.drop_succ_cons, List.drop_zero, Act.put, List.setIfInBounds_toArray, List.set_cons_zero, List.set_cons_succ, Nat.zero_add, Nat.reduceAdd]; go_simp; exact ⟨Below.refl _ _, rfl⟩
  · rintro v W hE ⟨-, -, -, -, -, -, -, -, -, -, -, -, -, -, -, -, -, -, -, -, -, -, -, e23, -⟩
    have e23 := (show v 23 = _ from e23)
    simp only [putAll, List.take_succ_cons, List.take_zero, List.drop_succ_cons, List.drop_zero, Act.put, List.setIfInBounds_toArray, List.set_cons_zero, List.set_cons_succ, Nat.zero_add, Nat.reduceAdd]
    rw [e23]
    have hB := (HR9.out.ext hE).below
    have HB := hid hB
    clear e23 hE hB
    go_wp2
    go_ret
    exact ⟨rfl, HB.out⟩
end Go.Proofs.YtpipmkaljkhgiaaDoor
