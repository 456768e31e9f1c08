/- Tags: a key and a value. -/
import Derived.Test.YtakebdeldndaaaaGreatNm
import Derived.Test.YtakebdeldndaaaaGreatShelf
namespace Go.Proofs.YtakebdeldndaaaaGreat
open Go Go.RowKit
set_option linter.unusedSimpArgs false
set_option linter.unusedVariables false

/-- A tag's parts. -/
def partsT (s : List UInt8) : List UInt8 × List UInt8 × Bool :=
  match s.findIdx? (· == 58) with
  | none => ([], [], false)
  | some i => if mayN (s.take i) && mayN (s.drop (i + 1)) then (s.take i, s.drop (i + 1), true) else ([], [], false)
def tagN (s : List UInt8) : Bool := (partsT s).2.2
theorem find_some {s : List UInt8} {k : Nat} (hk : k < s.length) (he : s[k] = 58) (hno : ∀ j (hj : j < k), (s[j]'(by omega)) ≠ 58) : s.findIdx? (· == 58) = some k := by
  rw [List.findIdx?_eq_some_iff_getElem]
  exact ⟨hk, by simpa using he, fun j hj => by simpa using hno j hj⟩
theorem find_none {s : List UInt8} (hno : ∀ j (hj : j < s.length), s[j] ≠ 58) : s.findIdx? (· == 58) = none := by
  rw [List.findIdx?_eq_none_iff]
  intro p hp
  obtain ⟨j, hj, rfl⟩ := List.getElem_of_mem hp
  simpa using hno j hj
theorem mayN_nil : mayN [] = false := rfl
/-- What is cut. -/
def cutT (s : List UInt8) : List UInt8 × List UInt8 × Bool :=
  match s.findIdx? (· == 58) with
  | none => (s, [], false)
  | some i => (s.take i, s.drop (i + 1), true)
theorem parts_cut (s : List UInt8) : partsT s = if mayN (cutT s).1 && mayN (cutT s).2.1 then ((cutT s).1, (cutT s).2.1, true) else ([], [], false) := by
  unfold partsT cutT
  cases s.findIdx? (· == 58) with
  | none => simp [mayN_nil]
  | some i => rfl
theorem index_find : ∀ s : List UInt8, Lib.indexByte s 58 = match s.findIdx? (· == 58) with | none => -1 | some k => (k : Int)
  | [] => rfl
  | c :: s => by
    have ih := index_find s
    unfold Lib.indexByte
    rw [List.findIdx?_cons]
    cases hc : (c == 58)
    · simp only [Bool.false_eq_true, if_false]
      rw [ih]
      cases s.findIdx? (· == 58) with
      | none => rfl
      | some k =>
        simp only [Option.map_some]
        rw [if_neg (by simp only [beq_iff_eq]; omega)]
        rfl
    · rfl
theorem index_none {s : List UInt8} (h : s.findIdx? (· == 58) = none) : Lib.indexByte s 58 = -1 := by rw [index_find, h]
theorem index_some {s : List UInt8} {k : Nat} (h : s.findIdx? (· == 58) = some k) : Lib.indexByte s 58 = (k : Int) := by rw [index_find, h]
set_option maxRecDepth 100000 in
set_option maxHeartbeats 4000000 in
theorem refParts_at (s : List UInt8) (w : World) (hs : s.length ≤ 9223372036854775807) : Calls Tryz.prog 66 #[.string (str s)] w fun e w' => e = .returned (.tuple #[.string (str (partsT s).1), .string (str (partsT s).2.1), .bool (partsT s).2.2]) ∧ Ext w w' := by
  have hl := fun ty w => len_str s ty w
  go_enter Tryz.func66, Tryz.ntmps66
  go_wp2_with fail
  go_loopw [5] (fun i wr => ∃ k : Nat, k ≤ s.length ∧ i = .int .i64 (k : Int) ∧ wr = w ∧ Hid (∀ j (hj : j < k) (h : j < s.length), s[j] ≠ 58)) (fun i _ => s.length - (intOf i).toNat)
  case atStart => exact ⟨0, by omega, rfl, rfl, fun j hj => by omega⟩
  case round =>
    obtain ⟨k, hk, rfl, rfl, HN⟩ := hrel
    by_cases hlt : k < s.length
    · have hlt' : (k : Int) < (s.length : Int) := by omega
      have hix := fun w => str_index s k hlt 9 w Tryz.underlying9
      by_cases hc : s[k] = 58
      · have Hf := hid (find_some hlt hc fun j hj => HN.out j hj (by omega))
        rw [hc] at hix
        have hu := fun w => str_upto s k (by omega) w
        have hf := fun w => str_from s (k + 1) (by omega) w
        rw [show ((k + 1 : Nat) : Int) = (k : Int) + 1 by omega] at hf
        have Hp := hid (show partsT s = if mayN (s.take k) && mayN (s.drop (k + 1)) then (s.take k, s.drop (k + 1), true) else ([], [], false) by unfold partsT; rw [Hf.out])
        generalize s.take k = X at hu Hp
        generalize s.drop (k + 1) = Y at hf Hp
        have h58 : ((58 : UInt8).toNat : Int) = 58 := rfl
        rw [h58] at hix
        clear hc
        go_wp2_with fail
        refine (refMayN_at X _).mono ?_
        rintro e w1 ⟨rfl, hE1⟩
        have HE1 := hid hE1
        clear hE1
        go_wp2_with fail
        refine (refMayN_at Y _).mono ?_
        rintro e w2 ⟨rfl, hE2⟩
        have HE2 := hid (HE1.out.trans (hE2.mono HE1.out.size))
        clear hE2
        cases h1 : mayN X
        · have hb := hid (show partsT s = ([], [], false) by rw [Hp.out, h1]; rfl)
          go_wp2
          go_ret3
          exact ⟨by rw [hb.out]; rfl, HE2.out⟩
        · cases h2 : mayN Y
          · have hb := hid (show partsT s = ([], [], false) by rw [Hp.out, h1, h2]; rfl)
            go_wp2
            go_ret3
            exact ⟨by rw [hb.out]; rfl, HE2.out⟩
          · have hb := hid (show partsT s = (X, Y, true) by rw [Hp.out, h1, h2]; rfl)
            go_wp2_with fail
            apply wp_drawn [isV _, isV _, isV _, isV _, isV _, isV _, isV _, isV _, isV _, isV _] (by kernel_rfl)
            · kernel_rfl
            · refine ⟨?r8s0, ?r8s1, ?r8s2, ?r8s3, ?r8s4, ?r8s5, ?r8s6, ?r8s7, ?r8s8, ?r8s9, trivial⟩
              case r8s0 =>
                intro v W hE hd; simp only [Region.wanted, ↓reduceIte]; (try simp [deps, waitsOn, Region.binds, knowing, isV, ownsV, anyV] at hd); simp only [putAll, List.take_succ_cons, List.take_zero, List.drop_succ_cons, List.drop_zero, Act.put, List.setIfInBounds_toArray, List.set_cons_zero, List.set_cons_succ, Nat.zero_add, Nat.reduceAdd]; go_simp; exact ⟨Below.refl _ _, rfl⟩
              case r8s1 =>
                intro v W hE hd; simp only [Region.wanted, ↓reduceIte]; (try simp [deps, waitsOn, Region.binds, knowing, isV, ownsV, anyV] at hd); simp only [putAll, List.take_succ_cons, List.take_zero, List.drop_succ_cons, List.drop_zero, Act.put, List.setIfInBounds_toArray, List.set_cons_zero, List.set_cons_succ, Nat.zero_add, Nat.reduceAdd]; go_simp; exact ⟨Below.refl _ _, rfl⟩
              case r8s2 =>
                intro v W hE hd; simp only [Region.wanted, ↓reduceIte]; (try simp [deps, waitsOn, Region.binds, knowing, isV, ownsV, anyV] at hd); simp only [putAll, List.take_succ_cons, List.take_zero, List.drop_succ_cons, List.drop_zero, Act.put, List.setIfInBounds_toArray, List.set_cons_zero, List.set_cons_succ, Nat.zero_add, Nat.reduceAdd]; go_simp; exact ⟨Below.refl _ _, rfl⟩
              case r8s3 =>
                intro v W hE hd; simp only [Region.wanted, ↓reduceIte]; (try simp [deps, waitsOn, Region.binds, knowing, isV, ownsV, anyV] at hd); simp only [putAll, List.take_succ_cons, List.take_zero, List.drop_succ_cons, List.drop_zero, Act.put, List.setIfInBounds_toArray, List.set_cons_zero, List.set_cons_succ, Nat.zero_add, Nat.reduceAdd]; go_simp; exact ⟨Below.refl _ _, rfl⟩
              case r8s4 =>
                intro v W hE hd; simp only [Region.wanted, ↓reduceIte]; (try simp [deps, waitsOn, Region.binds, knowing, isV, ownsV, anyV] at hd); simp only [putAll, List.take_succ_cons, List.take_zero, List.drop_succ_cons, List.drop_zero, Act.put, List.setIfInBounds_toArray, List.set_cons_zero, List.set_cons_succ, Nat.zero_add, Nat.reduceAdd]; go_simp; exact ⟨Below.refl _ _, rfl⟩
              case r8s5 =>
                intro v W hE hd; simp only [Region.wanted, ↓reduceIte]; (try simp [deps, waitsOn, Region.binds, knowing, isV, ownsV, anyV] at hd); simp only [putAll, List.take_succ_cons, List.take_zero, List.drop_succ_cons, List.drop_zero, Act.put, List.setIfInBounds_toArray, List.set_cons_zero, List.set_cons_succ, Nat.zero_add, Nat.reduceAdd]; go_simp; exact ⟨Below.refl _ _, rfl⟩
              case r8s6 =>
                intro v W hE hd; simp only [Region.wanted, ↓reduceIte]; (try simp [deps, waitsOn, Region.binds, knowing, isV, ownsV, anyV] at hd); simp only [putAll, List.take_succ_cons, List.take_zero, List.drop_succ_cons, List.drop_zero, Act.put, List.setIfInBounds_toArray, List.set_cons_zero, List.set_cons_succ, Nat.zero_add, Nat.reduceAdd]
                have hw : IntKind.i64.wrap ((k : Int) + 1) = (k : Int) + 1 := by rw [IntKind.wrap_i64]; omega
                go_simp
                exact ⟨Below.refl _ _, rfl⟩
              case r8s7 =>
                intro v W hE hd; simp only [Region.wanted, ↓reduceIte]; (try simp [deps, waitsOn, Region.binds, knowing, isV, ownsV, anyV] at hd); simp only [putAll, List.take_succ_cons, List.take_zero, List.drop_succ_cons, List.drop_zero, Act.put, List.setIfInBounds_toArray, List.set_cons_zero, List.set_cons_succ, Nat.zero_add, Nat.reduceAdd]; go_simp; exact ⟨Below.refl _ _, rfl⟩
              case r8s8 =>
                intro v W hE hd; simp only [Region.wanted, ↓reduceIte]; (try simp [deps, waitsOn, Region.binds, knowing, isV, ownsV, anyV] at hd); simp only [putAll, List.take_succ_cons, List.take_zero, List.drop_succ_cons, List.drop_zero, Act.put, List.setIfInBounds_toArray, List.set_cons_zero, List.set_cons_succ, Nat.zero_add, Nat.reduceAdd]; go_simp; exact ⟨Below.refl _ _, rfl⟩
              case r8s9 =>
                intro v W hE hd; simp only [Region.wanted, ↓reduceIte]; (try simp [deps, waitsOn, Region.binds, knowing, isV, ownsV, anyV] at hd); simp only [putAll, List.take_succ_cons, List.take_zero, List.drop_succ_cons, List.drop_zero, Act.put, List.setIfInBounds_toArray, List.set_cons_zero, List.set_cons_succ, Nat.zero_add, Nat.reduceAdd]; go_simp; exact ⟨Below.refl _ _, rfl⟩
            · rintro v W8 hE ⟨-, -, -, -, -, -, -, e7, e8, e9, -⟩
              have e7 := (show v 7 = _ from e7)
              have e8 := (show v 8 = _ from e8)
              have e9 := (show v 9 = _ from e9)
              simp only [putAll, List.take_succ_cons, List.take_zero, List.drop_succ_cons, List.drop_zero, Act.put, List.setIfInBounds_toArray, List.set_cons_zero, List.set_cons_succ, Nat.zero_add, Nat.reduceAdd]
              rw [e7, e8, e9]
              clear e7 e8 e9
              go_wp2
              go_ret3
              exact ⟨by rw [hb.out]; rfl, HE2.out.trans (hE.mono HE2.out.size)⟩
      · have hn := hid (show ∀ j (hj : j < k + 1) (h : j < s.length), s[j] ≠ 58 from fun j hj h => by
          rcases Nat.lt_succ_iff_lt_or_eq.1 hj with h' | rfl
          · exact HN.out j h' h
          · exact hc)
        have hne : (((s[k]).toNat : Int) == 58) = false := beq_eq_false_iff_ne.2 (fun e => hc (UInt8.toNat_inj.1 (by have : (58 : UInt8).toNat = 58 := rfl; omega)))
        generalize s[k] = c at hix hne
        clear hc
        go_wp2_with fail
        go_roundw
        case rel => exact ⟨k + 1, by omega, by go_num, by trivial, hn⟩
        case measure => simp [intOf]; omega
    · obtain rfl : k = s.length := by omega
      have hlt' : ¬ ((s.length : Int) < (s.length : Int)) := by omega
      have hb := hid (show partsT s = ([], [], false) by unfold partsT; rw [find_none fun j hj => HN.out j hj hj])
      go_wp2
      go_ret3
      exact ⟨by rw [hb.out]; rfl, Below.refl _ _⟩
set_option maxRecDepth 100000 in
set_option maxHeartbeats 4000000 in
theorem lcut_at (s : List UInt8) (w : World) (hs : s.length ≤ 9223372036854775807) : Calls Tryz.prog 137 #[.string (str s), .string ⟨#[58]⟩] w fun e w' => e = .returned (.tuple #[.string (str (cutT s).1), .string (str (cutT s).2.1), .bool (cutT s).2.2]) ∧ Ext w w' := by
  have hix := fun w => Tryz.stringslite_Index_one (str s) 58 w
  have hd : (str s).data.toList = s := by simp [str]
  rw [hd] at hix
  go_enter Tryz.func137, Tryz.ntmps137
  go_wp2_with fail
  refine (hix w).mono ?_
  rintro e w' ⟨rfl, rfl⟩
  cases hf : s.findIdx? (· == 58) with
  | none =>
    rw [index_none hf]
    have hb := hid (show cutT s = (s, [], false) by unfold cutT; rw [hf])
    go_wp2
    go_ret3
    exact ⟨by rw [hb.out]; rfl, Below.refl _ _⟩
  | some k =>
    rw [index_some hf]
    have hk : k < s.length := (List.findIdx?_eq_some_iff_getElem.1 hf).1
    have hb := hid (show cutT s = (s.take k, s.drop (k + 1), true) by unfold cutT; rw [hf])
    have hu := fun w => str_upto s k (by omega) w
    have hfr := fun w => str_from s (k + 1) (by omega) w
    rw [show ((k + 1 : Nat) : Int) = (k : Int) + 1 by omega] at hfr
    generalize s.take k = X at hu hb
    generalize s.drop (k + 1) = Y at hfr hb
    have hk0 : (0 : Int) ≤ (k : Int) := by omega
    clear hf hix
    go_wp2_with fail
    apply wp_drawn [isV _, isV _, isV _, isV _, isV _, isV _, isV _, isV _, isV _, isV _, isV _, isV _] (by kernel_rfl)
    · kernel_rfl
    · refine ⟨?rc3s0, ?rc3s1, ?rc3s2, ?rc3s3, ?rc3s4, ?rc3s5, ?rc3s6, ?rc3s7, ?rc3s8, ?rc3s9, ?rc3s10, ?rc3s11, trivial⟩
      case rc3s0 =>
        intro v W hE hd; simp only [Region.wanted, ↓reduceIte]; (try simp [deps, waitsOn, Region.binds, knowing, isV, ownsV, anyV] at hd); simp only [putAll, List.take_succ_cons, List.take_zero, List.drop_succ_cons, List.drop_zero, Act.put, List.setIfInBounds_toArray, List.set_cons_zero, List.set_cons_succ, Nat.zero_add, Nat.reduceAdd]; go_simp; exact ⟨Below.refl _ _, rfl⟩
      case rc3s1 =>
        intro v W hE hd; simp only [Region.wanted, ↓reduceIte]; (try simp [deps, waitsOn, Region.binds, knowing, isV, ownsV, anyV] at hd); simp only [putAll, List.take_succ_cons, List.take_zero, List.drop_succ_cons, List.drop_zero, Act.put, List.setIfInBounds_toArray, List.set_cons_zero, List.set_cons_succ, Nat.zero_add, Nat.reduceAdd]; go_simp; exact ⟨Below.refl _ _, rfl⟩
      case rc3s2 =>
        intro v W hE hd; simp only [Region.wanted, ↓reduceIte]; (try simp [deps, waitsOn, Region.binds, knowing, isV, ownsV, anyV] at hd); simp only [putAll, List.take_succ_cons, List.take_zero, List.drop_succ_cons, List.drop_zero, Act.put, List.setIfInBounds_toArray, List.set_cons_zero, List.set_cons_succ, Nat.zero_add, Nat.reduceAdd]; go_simp; exact ⟨Below.refl _ _, rfl⟩
      case rc3s3 =>
        intro v W hE hd; simp only [Region.wanted, ↓reduceIte]; (try simp [deps, waitsOn, Region.binds, knowing, isV, ownsV, anyV] at hd); simp only [putAll, List.take_succ_cons, List.take_zero, List.drop_succ_cons, List.drop_zero, Act.put, List.setIfInBounds_toArray, List.set_cons_zero, List.set_cons_succ, Nat.zero_add, Nat.reduceAdd]; go_simp; exact ⟨Below.refl _ _, rfl⟩
      case rc3s4 =>
        intro v W hE hd; simp only [Region.wanted, ↓reduceIte]; (try simp [deps, waitsOn, Region.binds, knowing, isV, ownsV, anyV] at hd); simp only [putAll, List.take_succ_cons, List.take_zero, List.drop_succ_cons, List.drop_zero, Act.put, List.setIfInBounds_toArray, List.set_cons_zero, List.set_cons_succ, Nat.zero_add, Nat.reduceAdd]; go_simp; exact ⟨Below.refl _ _, rfl⟩
      case rc3s5 =>
        intro v W hE hd; simp only [Region.wanted, ↓reduceIte]; (try simp [deps, waitsOn, Region.binds, knowing, isV, ownsV, anyV] at hd); simp only [putAll, List.take_succ_cons, List.take_zero, List.drop_succ_cons, List.drop_zero, Act.put, List.setIfInBounds_toArray, List.set_cons_zero, List.set_cons_succ, Nat.zero_add, Nat.reduceAdd]; go_simp; exact ⟨Below.refl _ _, rfl⟩
      case rc3s6 =>
        intro v W hE hd; simp only [Region.wanted, ↓reduceIte]; (try simp [deps, waitsOn, Region.binds, knowing, isV, ownsV, anyV] at hd); simp only [putAll, List.take_succ_cons, List.take_zero, List.drop_succ_cons, List.drop_zero, Act.put, List.setIfInBounds_toArray, List.set_cons_zero, List.set_cons_succ, Nat.zero_add, Nat.reduceAdd]; go_simp; exact ⟨Below.refl _ _, rfl⟩
      case rc3s7 =>
        intro v W hE hd; simp only [Region.wanted, ↓reduceIte]; (try simp [deps, waitsOn, Region.binds, knowing, isV, ownsV, anyV] at hd); simp only [putAll, List.take_succ_cons, List.take_zero, List.drop_succ_cons, List.drop_zero, Act.put, List.setIfInBounds_toArray, List.set_cons_zero, List.set_cons_succ, Nat.zero_add, Nat.reduceAdd]; go_simp; exact ⟨Below.refl _ _, rfl⟩
      case rc3s8 =>
        intro v W hE hd; simp only [Region.wanted, ↓reduceIte]; (try simp [deps, waitsOn, Region.binds, knowing, isV, ownsV, anyV] at hd); simp only [putAll, List.take_succ_cons, List.take_zero, List.drop_succ_cons, List.drop_zero, Act.put, List.setIfInBounds_toArray, List.set_cons_zero, List.set_cons_succ, Nat.zero_add, Nat.reduceAdd]
        have hw : IntKind.i64.wrap ((k : Int) + 1) = (k : Int) + 1 := by rw [IntKind.wrap_i64]; omega
        go_simp
        exact ⟨Below.refl _ _, rfl⟩
      case rc3s9 =>
        intro v W hE hd; simp only [Region.wanted, ↓reduceIte]; (try simp [deps, waitsOn, Region.binds, knowing, isV, ownsV, anyV] at hd); simp only [putAll, List.take_succ_cons, List.take_zero, List.drop_succ_cons, List.drop_zero, Act.put, List.setIfInBounds_toArray, List.set_cons_zero, List.set_cons_succ, Nat.zero_add, Nat.reduceAdd]; go_simp; exact ⟨Below.refl _ _, rfl⟩
      case rc3s10 =>
        intro v W hE hd; simp only [Region.wanted, ↓reduceIte]; (try simp [deps, waitsOn, Region.binds, knowing, isV, ownsV, anyV] at hd); simp only [putAll, List.take_succ_cons, List.take_zero, List.drop_succ_cons, List.drop_zero, Act.put, List.setIfInBounds_toArray, List.set_cons_zero, List.set_cons_succ, Nat.zero_add, Nat.reduceAdd]; go_simp; exact ⟨Below.refl _ _, rfl⟩
      case rc3s11 =>
        intro v W hE hd; simp only [Region.wanted, ↓reduceIte]; (try simp [deps, waitsOn, Region.binds, knowing, isV, ownsV, anyV] at hd); simp only [putAll, List.take_succ_cons, List.take_zero, List.drop_succ_cons, List.drop_zero, Act.put, List.setIfInBounds_toArray, List.set_cons_zero, List.set_cons_succ, Nat.zero_add, Nat.reduceAdd]; go_simp; exact ⟨Below.refl _ _, rfl⟩
    · rintro v W8 hE ⟨-, -, -, -, -, -, -, -, -, e9, e10, e11, -⟩
      have e9 := (show v 9 = _ from e9)
      have e10 := (show v 10 = _ from e10)
      have e11 := (show v 11 = _ from e11)
      simp only [putAll, List.take_succ_cons, List.take_zero, List.drop_succ_cons, List.drop_zero, Act.put, List.setIfInBounds_toArray, List.set_cons_zero, List.set_cons_succ, Nat.zero_add, Nat.reduceAdd]
      rw [e9, e10, e11]
      clear e9 e10 e11
      go_wp2
      go_ret3
      exact ⟨by rw [hb.out]; rfl, hE⟩
set_option maxRecDepth 100000 in
theorem cut_at (s : List UInt8) (w : World) (hs : s.length ≤ 9223372036854775807) : Calls Tryz.prog 125 #[.string (str s), .string ⟨#[58]⟩] w fun e w' => e = .returned (.tuple #[.string (str (cutT s).1), .string (str (cutT s).2.1), .bool (cutT s).2.2]) ∧ Ext w w' := by
  go_enter Tryz.func125, Tryz.ntmps125
  go_wp2_with fail
  refine (lcut_at s w hs).mono ?_
  rintro e w1 ⟨rfl, hE⟩
  have HE := hid hE
  clear hE
  go_wp2
  go_ret3
  exact ⟨rfl, HE.out⟩
set_option maxRecDepth 100000 in
set_option maxHeartbeats 4000000 in
theorem parts_at (s : List UInt8) (w : World) (hs : s.length ≤ 9223372036854775807) : Calls Tryz.prog 116 #[.string (str s)] w fun e w' => e = .returned (.tuple #[.string (str (partsT s).1), .string (str (partsT s).2.1), .bool (partsT s).2.2]) ∧ Ext w w' := by
  have hp := hid (parts_cut s)
  go_enter Tryz.func116, Tryz.ntmps116
  go_wp2_with fail
  refine (cut_at s w hs).mono ?_
  rintro e w1 ⟨rfl, hE⟩
  have HE := hid hE
  clear hE
  generalize (cutT s).1 = X at hp ⊢
  generalize (cutT s).2.1 = Y at hp ⊢
  go_wp2_with fail
  refine (mayN_at X w1).mono ?_
  rintro e w2 ⟨rfl, hE2⟩
  have HE2 := hid (HE.out.trans (hE2.mono HE.out.size))
  clear hE2
  cases h1 : mayN X
  · have hb := hid (show partsT s = ([], [], false) by rw [hp.out, h1]; rfl)
    go_wp2
    go_ret3
    exact ⟨by rw [hb.out]; rfl, HE2.out⟩
  · go_wp2_with fail
    refine (mayN_at Y w2).mono ?_
    rintro e w3 ⟨rfl, hE3⟩
    have HE3 := hid (HE2.out.trans (hE3.mono HE2.out.size))
    clear hE3
    cases h2 : mayN Y
    · have hb := hid (show partsT s = ([], [], false) by rw [hp.out, h1, h2]; rfl)
      go_wp2
      go_ret3
      exact ⟨by rw [hb.out]; rfl, HE3.out⟩
    · have hb := hid (show partsT s = (X, Y, true) by rw [hp.out, h1, h2]; rfl)
      go_wp2
      go_ret3
      exact ⟨by rw [hb.out]; rfl, HE3.out⟩
set_option maxRecDepth 100000 in
theorem mayTag_at (s : List UInt8) (w : World) (hs : s.length ≤ 9223372036854775807) : Calls Tryz.prog 101 #[.string (str s)] w fun e w' => e = .returned (.bool (tagN s)) ∧ Ext w w' := by
  have ht := hid (show tagN s = (partsT s).2.2 from rfl)
  go_enter Tryz.func101, Tryz.ntmps101
  go_wp2_with fail
  refine (parts_at s w hs).mono ?_
  rintro e w1 ⟨rfl, hE⟩
  have HE := hid hE
  clear hE
  go_wp2
  go_ret
  exact ⟨by rw [ht.out]; rfl, HE.out⟩
end Go.Proofs.YtakebdeldndaaaaGreat
