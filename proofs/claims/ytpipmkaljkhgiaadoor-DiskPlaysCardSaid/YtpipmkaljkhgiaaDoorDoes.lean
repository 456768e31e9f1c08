/- does: a call of both disks. -/
import Derived.Test.YtpipmkaljkhgiaaDoorTwo
namespace Go.Proofs.YtpipmkaljkhgiaaDoor
open Go Go.RowKit
set_option linter.unusedSimpArgs false
set_option linter.unusedVariables false

set_option maxRecDepth 100000 in
set_option maxHeartbeats 4000000 in
theorem does_at {w : World} {S : Nat → Prop} {d m y g : Nat} {q1 l1 q2 l2 : Int} {F1 F2 : Files} (h : Two w S d m y g q1 l1 F1 q2 l2 F2) (kd n : Int) (nm to : List UInt8) (A : Option Addr) (ln c : Nat) (bs : List UInt8)
    (hkd : -9223372036854775808 ≤ kd ∧ kd ≤ 9223372036854775807) (hn : n ≤ 9223372036854775807) (hnm : nm.length ≤ 9223372036854775807) (hto : to.length ≤ 9223372036854775807) (hln : ln = bs.length) (hc : ln ≤ c) (hA : RS w S A bs) :
    Calls Tryd.prog 24 #[.pointer (some ⟨d, 0, none⟩), .pointer (some ⟨y, 0, none⟩), .agg #[.int .i64 kd, .int .i64 n, .string (str nm), .string (str to), .slice A ln c]] w fun e w' =>
      e = .returned (.bool (decide (doE (kindN kd 9) q1 l1 F1 n nm to bs = doE (kindN kd 9) q2 l2 F2 n nm to bs))) ∧ After w S d m y g q1 (doL (kindN kd 9) l1) (doF (kindN kd 9) q1 l1 F1 n nm to bs) q2 (doL (kindN kd 9) l2) (doF (kindN kd 9) q2 l2 F2 n nm to bs) w' := by
  have H := hid h
  have Hne := hid (show w.heap.size ≠ d ∧ w.heap.size ≠ m ∧ w.heap.size ≠ y ∧ w.heap.size ≠ g from by
    have h1 := h.disk.lt; have h2 := h.ref.lt; have h3 := h.ref.glt
    omega)
  have Hln := hid hln
  have HA := hid hA
  obtain ⟨k, hk⟩ : ∃ k, k = kindN kd 9 := ⟨_, rfl⟩
  rw [← hk]
  clear h hln hA
  go_enter Tryd.func24, Tryd.ntmps24
  go_wp2_with fail
  have HE := hid (show Ext w (w.alloc (.cells #[.int .i64 kd, .int .i64 n, .string (str nm), .string (str to), .slice A ln c] 46)) from (Below.refl _ _).alloc (Nat.le_refl _) _)
  have Hbx := hid (show OpBox w.heap.size kd n nm to A ln c (w.alloc (.cells #[.int .i64 kd, .int .i64 n, .string (str nm), .string (str to), .slice A ln c] 46)) from heap_alloc_last w _)
  have H1 := hid (H.out.ext HE.out)
  generalize w.alloc (.cells #[.int .i64 kd, .int .i64 n, .string (str nm), .string (str to), .slice A ln c] 46) = w1 at HE Hbx H1 ⊢
  refine (kind_at kd 9 w1 hkd (by omega)).mono ?_
  rintro e w' ⟨rfl, rfl⟩
  rw [← hk]
  have hk0 := hid hk
  clear hk
  by_cases h3 : k = 3
  · subst h3
    have eE1 := hid (show doE 3 q1 l1 F1 n nm to bs = knownEF l1 F1 nm from rfl)
    have eE2 := hid (show doE 3 q2 l2 F2 n nm to bs = knownEF l2 F2 nm from rfl)
    have eF1 := hid (show doF 3 q1 l1 F1 n nm to bs = syncF l1 F1 nm from rfl)
    have eF2 := hid (show doF 3 q2 l2 F2 n nm to bs = syncF l2 F2 nm from rfl)
    have eL1 := hid (show doL 3 l1 = burnL l1 from rfl)
    have eL2 := hid (show doL 3 l2 = burnL l2 from rfl)
    go_wp2_with fail
    apply wp_drawn_ph 3 7 (OpBox w.heap.size kd n nm to A ln c) (Mid w1 S d m y g q1 l1 F1 q2 l2 F2) (Mid w1 S d m y g q1 (doL 3 l1) (doF 3 q1 l1 F1 n nm to bs) q2 l2 F2) (After w1 S d m y g q1 (doL 3 l1) (doF 3 q1 l1 F1 n nm to bs) q2 (doL 3 l2) (doF 3 q2 l2 F2 n nm to bs)) [isV _, isV _, isV _, isV _, isV _, isV _, isV _, isV _, isV _, isV _] (by kernel_rfl)
    · kernel_rfl
    · kernel_rfl
    · intro W hE
      exact ⟨Hbx.out.ext hE, H1.out.ext hE, Kept2.of_ext hE⟩
    · refine ⟨?r3s0, ?r3s1, ?r3s2, ?r3s3, ?r3s4, ?r3s5, ?r3s6, ?r3s7, ?r3s8, ?r3s9, trivial⟩
      case r3s0 =>
        refine @stepPh_quiet _ _ _ _ _ _ _ _ _ _ _ _ (by decide) (by decide) ?_
        intro v W hB hd; simp only [Region.wanted, ↓reduceIte]; (try simp [deps, waitsOn, Region.binds, knowing, isV, ownsV, anyV] at hd); simp only [putAll, List.take_succ_cons, List.take_zero, List.drop_succ_cons, List.drop_zero, Act.put, List.setIfInBounds_toArray, List.set_cons_zero, List.set_cons_succ, Nat.zero_add, Nat.reduceAdd]; obtain ⟨b0, b1, b2, b3, b4⟩ := hB.cells; go_simp; exact ⟨Stay.refl _, rfl⟩
      case r3s1 =>
        refine @stepPh_quiet _ _ _ _ _ _ _ _ _ _ _ _ (by decide) (by decide) ?_
        intro v W hB hd; simp only [Region.wanted, ↓reduceIte]; (try simp [deps, waitsOn, Region.binds, knowing, isV, ownsV, anyV] at hd); simp only [putAll, List.take_succ_cons, List.take_zero, List.drop_succ_cons, List.drop_zero, Act.put, List.setIfInBounds_toArray, List.set_cons_zero, List.set_cons_succ, Nat.zero_add, Nat.reduceAdd]; obtain ⟨b0, b1, b2, b3, b4⟩ := hB.cells; go_simp; exact ⟨Stay.refl _, rfl⟩
      case r3s2 =>
        refine @stepPh_quiet _ _ _ _ _ _ _ _ _ _ _ _ (by decide) (by decide) ?_
        intro v W hB hd; simp only [Region.wanted, ↓reduceIte]; (try simp [deps, waitsOn, Region.binds, knowing, isV, ownsV, anyV] at hd); simp only [putAll, List.take_succ_cons, List.take_zero, List.drop_succ_cons, List.drop_zero, Act.put, List.setIfInBounds_toArray, List.set_cons_zero, List.set_cons_succ, Nat.zero_add, Nat.reduceAdd]; obtain ⟨b0, b1, b2, b3, b4⟩ := hB.cells; go_simp; exact ⟨Stay.refl _, rfl⟩
      case r3s3 =>
        refine @stepPh_fst _ _ _ _ _ _ _ _ _ _ _ ?_
        intro v W hB hd; refine ⟨rfl, ?_⟩; (try simp [deps, waitsOn, Region.binds, knowing, isV, ownsV, anyV] at hd); simp only [putAll, List.take_succ_cons, List.take_zero, List.drop_succ_cons, List.drop_zero, Act.put, List.setIfInBounds_toArray, List.set_cons_zero, List.set_cons_succ, Nat.zero_add, Nat.reduceAdd]
        obtain ⟨hB, hT, hK⟩ := hB
        go_simp
        refine (sync_at hT.disk nm hnm).mono ?_
        rintro e w' ⟨rfl, hD, hK'⟩
        go_simp
        exact ⟨⟨hB.kept hK' Hne.out.1 Hne.out.2.1, by rw [eL1.out, eF1.out]; exact ⟨hT.fst hD hK', hK.trans hK'⟩⟩, rfl⟩
      case r3s4 =>
        refine @stepPh_quiet _ _ _ _ _ _ _ _ _ _ _ _ (by decide) (by decide) ?_
        intro v W hB hd; simp only [Region.wanted, ↓reduceIte]; (try simp [deps, waitsOn, Region.binds, knowing, isV, ownsV, anyV] at hd); simp only [putAll, List.take_succ_cons, List.take_zero, List.drop_succ_cons, List.drop_zero, Act.put, List.setIfInBounds_toArray, List.set_cons_zero, List.set_cons_succ, Nat.zero_add, Nat.reduceAdd]; obtain ⟨b0, b1, b2, b3, b4⟩ := hB.cells; go_simp; exact ⟨Stay.refl _, rfl⟩
      case r3s5 =>
        refine @stepPh_quiet _ _ _ _ _ _ _ _ _ _ _ _ (by decide) (by decide) ?_
        intro v W hB hd; simp only [Region.wanted, ↓reduceIte]; (try simp [deps, waitsOn, Region.binds, knowing, isV, ownsV, anyV] at hd); simp only [putAll, List.take_succ_cons, List.take_zero, List.drop_succ_cons, List.drop_zero, Act.put, List.setIfInBounds_toArray, List.set_cons_zero, List.set_cons_succ, Nat.zero_add, Nat.reduceAdd]; obtain ⟨b0, b1, b2, b3, b4⟩ := hB.cells; go_simp; exact ⟨Stay.refl _, rfl⟩
      case r3s6 =>
        refine @stepPh_quiet _ _ _ _ _ _ _ _ _ _ _ _ (by decide) (by decide) ?_
        intro v W hB hd; simp only [Region.wanted, ↓reduceIte]; (try simp [deps, waitsOn, Region.binds, knowing, isV, ownsV, anyV] at hd); simp only [putAll, List.take_succ_cons, List.take_zero, List.drop_succ_cons, List.drop_zero, Act.put, List.setIfInBounds_toArray, List.set_cons_zero, List.set_cons_succ, Nat.zero_add, Nat.reduceAdd]; obtain ⟨b0, b1, b2, b3, b4⟩ := hB.cells; go_simp; exact ⟨Stay.refl _, rfl⟩
      case r3s7 =>
        refine @stepPh_snd _ _ _ _ _ _ _ _ _ _ _ (by decide) ?_
        intro v W hB hd; refine ⟨rfl, ?_⟩; (try simp [deps, waitsOn, Region.binds, knowing, isV, ownsV, anyV] at hd); simp only [putAll, List.take_succ_cons, List.take_zero, List.drop_succ_cons, List.drop_zero, Act.put, List.setIfInBounds_toArray, List.set_cons_zero, List.set_cons_succ, Nat.zero_add, Nat.reduceAdd]
        obtain ⟨hB, hI⟩ := hB
        go_simp
        refine (sync_ref hI.1.ref nm).mono ?_
        rintro e w' ⟨rfl, S', g', hR, hS, hg⟩
        go_simp
        exact ⟨⟨hB.kept hS.kept Hne.out.2.2.1 Hne.out.2.2.2, by rw [eL2.out, eF2.out]; exact After.mk hI H1.out.disk.fresh hR hS hg⟩, rfl⟩
      case r3s8 =>
        refine @stepPh_quiet _ _ _ _ _ _ _ _ _ _ _ _ (by decide) (by decide) ?_
        intro v W hB hd; simp only [Region.wanted, ↓reduceIte]; (try simp [deps, waitsOn, Region.binds, knowing, isV, ownsV, anyV] at hd); simp only [putAll, List.take_succ_cons, List.take_zero, List.drop_succ_cons, List.drop_zero, Act.put, List.setIfInBounds_toArray, List.set_cons_zero, List.set_cons_succ, Nat.zero_add, Nat.reduceAdd]; obtain ⟨b0, b1, b2, b3, b4⟩ := hB.cells; go_simp; exact ⟨Stay.refl _, rfl⟩
      case r3s9 =>
        refine @stepPh_quiet _ _ _ _ _ _ _ _ _ _ _ _ (by decide) (by decide) ?_
        intro v W hB hd; simp only [Region.wanted, ↓reduceIte]; (try simp [deps, waitsOn, Region.binds, knowing, isV, ownsV, anyV] at hd); simp only [putAll, List.take_succ_cons, List.take_zero, List.drop_succ_cons, List.drop_zero, Act.put, List.setIfInBounds_toArray, List.set_cons_zero, List.set_cons_succ, Nat.zero_add, Nat.reduceAdd]; obtain ⟨b0, b1, b2, b3, b4⟩ := hB.cells; go_simp; exact ⟨Stay.refl _, rfl⟩
    · intro i w1 w2 w3 h
      match i, h with
      | 0, h => exact h
      | 1, h => exact h
      | 2, h => exact h
      | 3, h => exact h
      | 4, h => exact h
      | 5, h => exact h
      | 6, h => exact h
      | 7, h => exact h
      | 8, h => exact h
      | 9, h => exact h
      | _ + 10, h => exact h
    · rintro v W6 hB hI ⟨-, -, -, -, -, -, -, -, -, e9, -⟩
      have e9 := (show v 9 = _ from e9)
      simp only [putAll, List.take_succ_cons, List.take_zero, List.drop_succ_cons, List.drop_zero, Act.put, List.setIfInBounds_toArray, List.set_cons_zero, List.set_cons_succ, Nat.zero_add, Nat.reduceAdd]
      rw [e9]
      clear e9
      go_wp2
      go_ret
      exact ⟨by rw [eE1.out, eE2.out]; first | rfl | simp, hI.from_ HE.out H.out.disk.fresh⟩
  by_cases h4 : k = 4
  · subst h4
    have eE1 := hid (show doE 4 q1 l1 F1 n nm to bs = renEF l1 F1 nm to from rfl)
    have eE2 := hid (show doE 4 q2 l2 F2 n nm to bs = renEF l2 F2 nm to from rfl)
    have eF1 := hid (show doF 4 q1 l1 F1 n nm to bs = renF l1 F1 nm to from rfl)
    have eF2 := hid (show doF 4 q2 l2 F2 n nm to bs = renF l2 F2 nm to from rfl)
    have eL1 := hid (show doL 4 l1 = burnL l1 from rfl)
    have eL2 := hid (show doL 4 l2 = burnL l2 from rfl)
    go_wp2_with fail
    apply wp_drawn_ph 5 11 (OpBox w.heap.size kd n nm to A ln c) (Mid w1 S d m y g q1 l1 F1 q2 l2 F2) (Mid w1 S d m y g q1 (doL 4 l1) (doF 4 q1 l1 F1 n nm to bs) q2 l2 F2) (After w1 S d m y g q1 (doL 4 l1) (doF 4 q1 l1 F1 n nm to bs) q2 (doL 4 l2) (doF 4 q2 l2 F2 n nm to bs)) [isV _, isV _, isV _, isV _, isV _, isV _, isV _, isV _, isV _, isV _, isV _, isV _, isV _, isV _] (by kernel_rfl)
    · kernel_rfl
    · kernel_rfl
    · intro W hE
      exact ⟨Hbx.out.ext hE, H1.out.ext hE, Kept2.of_ext hE⟩
    · refine ⟨?r5s0, ?r5s1, ?r5s2, ?r5s3, ?r5s4, ?r5s5, ?r5s6, ?r5s7, ?r5s8, ?r5s9, ?r5s10, ?r5s11, ?r5s12, ?r5s13, trivial⟩
      case r5s0 =>
        refine @stepPh_quiet _ _ _ _ _ _ _ _ _ _ _ _ (by decide) (by decide) ?_
        intro v W hB hd; simp only [Region.wanted, ↓reduceIte]; (try simp [deps, waitsOn, Region.binds, knowing, isV, ownsV, anyV] at hd); simp only [putAll, List.take_succ_cons, List.take_zero, List.drop_succ_cons, List.drop_zero, Act.put, List.setIfInBounds_toArray, List.set_cons_zero, List.set_cons_succ, Nat.zero_add, Nat.reduceAdd]; obtain ⟨b0, b1, b2, b3, b4⟩ := hB.cells; go_simp; exact ⟨Stay.refl _, rfl⟩
      case r5s1 =>
        refine @stepPh_quiet _ _ _ _ _ _ _ _ _ _ _ _ (by decide) (by decide) ?_
        intro v W hB hd; simp only [Region.wanted, ↓reduceIte]; (try simp [deps, waitsOn, Region.binds, knowing, isV, ownsV, anyV] at hd); simp only [putAll, List.take_succ_cons, List.take_zero, List.drop_succ_cons, List.drop_zero, Act.put, List.setIfInBounds_toArray, List.set_cons_zero, List.set_cons_succ, Nat.zero_add, Nat.reduceAdd]; obtain ⟨b0, b1, b2, b3, b4⟩ := hB.cells; go_simp; exact ⟨Stay.refl _, rfl⟩
      case r5s2 =>
        refine @stepPh_quiet _ _ _ _ _ _ _ _ _ _ _ _ (by decide) (by decide) ?_
        intro v W hB hd; simp only [Region.wanted, ↓reduceIte]; (try simp [deps, waitsOn, Region.binds, knowing, isV, ownsV, anyV] at hd); simp only [putAll, List.take_succ_cons, List.take_zero, List.drop_succ_cons, List.drop_zero, Act.put, List.setIfInBounds_toArray, List.set_cons_zero, List.set_cons_succ, Nat.zero_add, Nat.reduceAdd]; obtain ⟨b0, b1, b2, b3, b4⟩ := hB.cells; go_simp; exact ⟨Stay.refl _, rfl⟩
      case r5s3 =>
        refine @stepPh_quiet _ _ _ _ _ _ _ _ _ _ _ _ (by decide) (by decide) ?_
        intro v W hB hd; simp only [Region.wanted, ↓reduceIte]; (try simp [deps, waitsOn, Region.binds, knowing, isV, ownsV, anyV] at hd); simp only [putAll, List.take_succ_cons, List.take_zero, List.drop_succ_cons, List.drop_zero, Act.put, List.setIfInBounds_toArray, List.set_cons_zero, List.set_cons_succ, Nat.zero_add, Nat.reduceAdd]; obtain ⟨b0, b1, b2, b3, b4⟩ := hB.cells; go_simp; exact ⟨Stay.refl _, rfl⟩
      case r5s4 =>
        refine @stepPh_quiet _ _ _ _ _ _ _ _ _ _ _ _ (by decide) (by decide) ?_
        intro v W hB hd; simp only [Region.wanted, ↓reduceIte]; (try simp [deps, waitsOn, Region.binds, knowing, isV, ownsV, anyV] at hd); simp only [putAll, List.take_succ_cons, List.take_zero, List.drop_succ_cons, List.drop_zero, Act.put, List.setIfInBounds_toArray, List.set_cons_zero, List.set_cons_succ, Nat.zero_add, Nat.reduceAdd]; obtain ⟨b0, b1, b2, b3, b4⟩ := hB.cells; go_simp; exact ⟨Stay.refl _, rfl⟩
      case r5s5 =>
        refine @stepPh_fst _ _ _ _ _ _ _ _ _ _ _ ?_
        intro v W hB hd; refine ⟨rfl, ?_⟩; (try simp [deps, waitsOn, Region.binds, knowing, isV, ownsV, anyV] at hd); simp only [putAll, List.take_succ_cons, List.take_zero, List.drop_succ_cons, List.drop_zero, Act.put, List.setIfInBounds_toArray, List.set_cons_zero, List.set_cons_succ, Nat.zero_add, Nat.reduceAdd]
        obtain ⟨hB, hT, hK⟩ := hB
        go_simp
        refine (rename_at hT.disk nm to hnm hto).mono ?_
        rintro e w' ⟨rfl, hD, hK'⟩
        go_simp
        exact ⟨⟨hB.kept hK' Hne.out.1 Hne.out.2.1, by rw [eL1.out, eF1.out]; exact ⟨hT.fst hD hK', hK.trans hK'⟩⟩, rfl⟩
      case r5s6 =>
        refine @stepPh_quiet _ _ _ _ _ _ _ _ _ _ _ _ (by decide) (by decide) ?_
        intro v W hB hd; simp only [Region.wanted, ↓reduceIte]; (try simp [deps, waitsOn, Region.binds, knowing, isV, ownsV, anyV] at hd); simp only [putAll, List.take_succ_cons, List.take_zero, List.drop_succ_cons, List.drop_zero, Act.put, List.setIfInBounds_toArray, List.set_cons_zero, List.set_cons_succ, Nat.zero_add, Nat.reduceAdd]; obtain ⟨b0, b1, b2, b3, b4⟩ := hB.cells; go_simp; exact ⟨Stay.refl _, rfl⟩
      case r5s7 =>
        refine @stepPh_quiet _ _ _ _ _ _ _ _ _ _ _ _ (by decide) (by decide) ?_
        intro v W hB hd; simp only [Region.wanted, ↓reduceIte]; (try simp [deps, waitsOn, Region.binds, knowing, isV, ownsV, anyV] at hd); simp only [putAll, List.take_succ_cons, List.take_zero, List.drop_succ_cons, List.drop_zero, Act.put, List.setIfInBounds_toArray, List.set_cons_zero, List.set_cons_succ, Nat.zero_add, Nat.reduceAdd]; obtain ⟨b0, b1, b2, b3, b4⟩ := hB.cells; go_simp; exact ⟨Stay.refl _, rfl⟩
      case r5s8 =>
        refine @stepPh_quiet _ _ _ _ _ _ _ _ _ _ _ _ (by decide) (by decide) ?_
        intro v W hB hd; simp only [Region.wanted, ↓reduceIte]; (try simp [deps, waitsOn, Region.binds, knowing, isV, ownsV, anyV] at hd); simp only [putAll, List.take_succ_cons, List.take_zero, List.drop_succ_cons, List.drop_zero, Act.put, List.setIfInBounds_toArray, List.set_cons_zero, List.set_cons_succ, Nat.zero_add, Nat.reduceAdd]; obtain ⟨b0, b1, b2, b3, b4⟩ := hB.cells; go_simp; exact ⟨Stay.refl _, rfl⟩
      case r5s9 =>
        refine @stepPh_quiet _ _ _ _ _ _ _ _ _ _ _ _ (by decide) (by decide) ?_
        intro v W hB hd; simp only [Region.wanted, ↓reduceIte]; (try simp [deps, waitsOn, Region.binds, knowing, isV, ownsV, anyV] at hd); simp only [putAll, List.take_succ_cons, List.take_zero, List.drop_succ_cons, List.drop_zero, Act.put, List.setIfInBounds_toArray, List.set_cons_zero, List.set_cons_succ, Nat.zero_add, Nat.reduceAdd]; obtain ⟨b0, b1, b2, b3, b4⟩ := hB.cells; go_simp; exact ⟨Stay.refl _, rfl⟩
      case r5s10 =>
        refine @stepPh_quiet _ _ _ _ _ _ _ _ _ _ _ _ (by decide) (by decide) ?_
        intro v W hB hd; simp only [Region.wanted, ↓reduceIte]; (try simp [deps, waitsOn, Region.binds, knowing, isV, ownsV, anyV] at hd); simp only [putAll, List.take_succ_cons, List.take_zero, List.drop_succ_cons, List.drop_zero, Act.put, List.setIfInBounds_toArray, List.set_cons_zero, List.set_cons_succ, Nat.zero_add, Nat.reduceAdd]; obtain ⟨b0, b1, b2, b3, b4⟩ := hB.cells; go_simp; exact ⟨Stay.refl _, rfl⟩
      case r5s11 =>
        refine @stepPh_snd _ _ _ _ _ _ _ _ _ _ _ (by decide) ?_
        intro v W hB hd; refine ⟨rfl, ?_⟩; (try simp [deps, waitsOn, Region.binds, knowing, isV, ownsV, anyV] at hd); simp only [putAll, List.take_succ_cons, List.take_zero, List.drop_succ_cons, List.drop_zero, Act.put, List.setIfInBounds_toArray, List.set_cons_zero, List.set_cons_succ, Nat.zero_add, Nat.reduceAdd]
        obtain ⟨hB, hI⟩ := hB
        go_simp
        refine (rename_ref hI.1.ref nm to hto).mono ?_
        rintro e w' ⟨rfl, S', g', hR, hS, hg⟩
        go_simp
        exact ⟨⟨hB.kept hS.kept Hne.out.2.2.1 Hne.out.2.2.2, by rw [eL2.out, eF2.out]; exact After.mk hI H1.out.disk.fresh hR hS hg⟩, rfl⟩
      case r5s12 =>
        refine @stepPh_quiet _ _ _ _ _ _ _ _ _ _ _ _ (by decide) (by decide) ?_
        intro v W hB hd; simp only [Region.wanted, ↓reduceIte]; (try simp [deps, waitsOn, Region.binds, knowing, isV, ownsV, anyV] at hd); simp only [putAll, List.take_succ_cons, List.take_zero, List.drop_succ_cons, List.drop_zero, Act.put, List.setIfInBounds_toArray, List.set_cons_zero, List.set_cons_succ, Nat.zero_add, Nat.reduceAdd]; obtain ⟨b0, b1, b2, b3, b4⟩ := hB.cells; go_simp; exact ⟨Stay.refl _, rfl⟩
      case r5s13 =>
        refine @stepPh_quiet _ _ _ _ _ _ _ _ _ _ _ _ (by decide) (by decide) ?_
        intro v W hB hd; simp only [Region.wanted, ↓reduceIte]; (try simp [deps, waitsOn, Region.binds, knowing, isV, ownsV, anyV] at hd); simp only [putAll, List.take_succ_cons, List.take_zero, List.drop_succ_cons, List.drop_zero, Act.put, List.setIfInBounds_toArray, List.set_cons_zero, List.set_cons_succ, Nat.zero_add, Nat.reduceAdd]; obtain ⟨b0, b1, b2, b3, b4⟩ := hB.cells; go_simp; exact ⟨Stay.refl _, rfl⟩
    · intro i w1 w2 w3 h
      match i, h with
      | 0, h => exact h
      | 1, h => exact h
      | 2, h => exact h
      | 3, h => exact h
      | 4, h => exact h
      | 5, h => exact h
      | 6, h => exact h
      | 7, h => exact h
      | 8, h => exact h
      | 9, h => exact h
      | 10, h => exact h
      | 11, h => exact h
      | 12, h => exact h
      | 13, h => exact h
      | _ + 14, h => exact h
    · rintro v W6 hB hI ⟨-, -, -, -, -, -, -, -, -, -, -, -, -, e13, -⟩
      have e13 := (show v 13 = _ from e13)
      simp only [putAll, List.take_succ_cons, List.take_zero, List.drop_succ_cons, List.drop_zero, Act.put, List.setIfInBounds_toArray, List.set_cons_zero, List.set_cons_succ, Nat.zero_add, Nat.reduceAdd]
      rw [e13]
      clear e13
      go_wp2
      go_ret
      exact ⟨by rw [eE1.out, eE2.out]; first | rfl | simp, hI.from_ HE.out H.out.disk.fresh⟩
  by_cases h5 : k = 5
  · subst h5
    have eE1 := hid (show doE 5 q1 l1 F1 n nm to bs = truncEF l1 F1 nm n from rfl)
    have eE2 := hid (show doE 5 q2 l2 F2 n nm to bs = truncEF l2 F2 nm n from rfl)
    have eF1 := hid (show doF 5 q1 l1 F1 n nm to bs = truncF l1 F1 nm n from rfl)
    have eF2 := hid (show doF 5 q2 l2 F2 n nm to bs = truncF l2 F2 nm n from rfl)
    have eL1 := hid (show doL 5 l1 = burnL l1 from rfl)
    have eL2 := hid (show doL 5 l2 = burnL l2 from rfl)
    go_wp2_with fail
    apply wp_drawn_ph 5 11 (OpBox w.heap.size kd n nm to A ln c) (Mid w1 S d m y g q1 l1 F1 q2 l2 F2) (Mid w1 S d m y g q1 (doL 5 l1) (doF 5 q1 l1 F1 n nm to bs) q2 l2 F2) (After w1 S d m y g q1 (doL 5 l1) (doF 5 q1 l1 F1 n nm to bs) q2 (doL 5 l2) (doF 5 q2 l2 F2 n nm to bs)) [isV _, isV _, isV _, isV _, isV _, isV _, isV _, isV _, isV _, isV _, isV _, isV _, isV _, isV _] (by kernel_rfl)
    · kernel_rfl
    · kernel_rfl
    · intro W hE
      exact ⟨Hbx.out.ext hE, H1.out.ext hE, Kept2.of_ext hE⟩
    · refine ⟨?r7s0, ?r7s1, ?r7s2, ?r7s3, ?r7s4, ?r7s5, ?r7s6, ?r7s7, ?r7s8, ?r7s9, ?r7s10, ?r7s11, ?r7s12, ?r7s13, trivial⟩
      case r7s0 =>
        refine @stepPh_quiet _ _ _ _ _ _ _ _ _ _ _ _ (by decide) (by decide) ?_
        intro v W hB hd; simp only [Region.wanted, ↓reduceIte]; (try simp [deps, waitsOn, Region.binds, knowing, isV, ownsV, anyV] at hd); simp only [putAll, List.take_succ_cons, List.take_zero, List.drop_succ_cons, List.drop_zero, Act.put, List.setIfInBounds_toArray, List.set_cons_zero, List.set_cons_succ, Nat.zero_add, Nat.reduceAdd]; obtain ⟨b0, b1, b2, b3, b4⟩ := hB.cells; go_simp; exact ⟨Stay.refl _, rfl⟩
      case r7s1 =>
        refine @stepPh_quiet _ _ _ _ _ _ _ _ _ _ _ _ (by decide) (by decide) ?_
        intro v W hB hd; simp only [Region.wanted, ↓reduceIte]; (try simp [deps, waitsOn, Region.binds, knowing, isV, ownsV, anyV] at hd); simp only [putAll, List.take_succ_cons, List.take_zero, List.drop_succ_cons, List.drop_zero, Act.put, List.setIfInBounds_toArray, List.set_cons_zero, List.set_cons_succ, Nat.zero_add, Nat.reduceAdd]; obtain ⟨b0, b1, b2, b3, b4⟩ := hB.cells; go_simp; exact ⟨Stay.refl _, rfl⟩
      case r7s2 =>
        refine @stepPh_quiet _ _ _ _ _ _ _ _ _ _ _ _ (by decide) (by decide) ?_
        intro v W hB hd; simp only [Region.wanted, ↓reduceIte]; (try simp [deps, waitsOn, Region.binds, knowing, isV, ownsV, anyV] at hd); simp only [putAll, List.take_succ_cons, List.take_zero, List.drop_succ_cons, List.drop_zero, Act.put, List.setIfInBounds_toArray, List.set_cons_zero, List.set_cons_succ, Nat.zero_add, Nat.reduceAdd]; obtain ⟨b0, b1, b2, b3, b4⟩ := hB.cells; go_simp; exact ⟨Stay.refl _, rfl⟩
      case r7s3 =>
        refine @stepPh_quiet _ _ _ _ _ _ _ _ _ _ _ _ (by decide) (by decide) ?_
        intro v W hB hd; simp only [Region.wanted, ↓reduceIte]; (try simp [deps, waitsOn, Region.binds, knowing, isV, ownsV, anyV] at hd); simp only [putAll, List.take_succ_cons, List.take_zero, List.drop_succ_cons, List.drop_zero, Act.put, List.setIfInBounds_toArray, List.set_cons_zero, List.set_cons_succ, Nat.zero_add, Nat.reduceAdd]; obtain ⟨b0, b1, b2, b3, b4⟩ := hB.cells; go_simp; exact ⟨Stay.refl _, rfl⟩
      case r7s4 =>
        refine @stepPh_quiet _ _ _ _ _ _ _ _ _ _ _ _ (by decide) (by decide) ?_
        intro v W hB hd; simp only [Region.wanted, ↓reduceIte]; (try simp [deps, waitsOn, Region.binds, knowing, isV, ownsV, anyV] at hd); simp only [putAll, List.take_succ_cons, List.take_zero, List.drop_succ_cons, List.drop_zero, Act.put, List.setIfInBounds_toArray, List.set_cons_zero, List.set_cons_succ, Nat.zero_add, Nat.reduceAdd]; obtain ⟨b0, b1, b2, b3, b4⟩ := hB.cells; go_simp; exact ⟨Stay.refl _, rfl⟩
      case r7s5 =>
        refine @stepPh_fst _ _ _ _ _ _ _ _ _ _ _ ?_
        intro v W hB hd; refine ⟨rfl, ?_⟩; (try simp [deps, waitsOn, Region.binds, knowing, isV, ownsV, anyV] at hd); simp only [putAll, List.take_succ_cons, List.take_zero, List.drop_succ_cons, List.drop_zero, Act.put, List.setIfInBounds_toArray, List.set_cons_zero, List.set_cons_succ, Nat.zero_add, Nat.reduceAdd]
        obtain ⟨hB, hT, hK⟩ := hB
        go_simp
        refine (trunc_at hT.disk nm hnm n).mono ?_
        rintro e w' ⟨rfl, hD, hK'⟩
        go_simp
        exact ⟨⟨hB.kept hK' Hne.out.1 Hne.out.2.1, by rw [eL1.out, eF1.out]; exact ⟨hT.fst hD hK', hK.trans hK'⟩⟩, rfl⟩
      case r7s6 =>
        refine @stepPh_quiet _ _ _ _ _ _ _ _ _ _ _ _ (by decide) (by decide) ?_
        intro v W hB hd; simp only [Region.wanted, ↓reduceIte]; (try simp [deps, waitsOn, Region.binds, knowing, isV, ownsV, anyV] at hd); simp only [putAll, List.take_succ_cons, List.take_zero, List.drop_succ_cons, List.drop_zero, Act.put, List.setIfInBounds_toArray, List.set_cons_zero, List.set_cons_succ, Nat.zero_add, Nat.reduceAdd]; obtain ⟨b0, b1, b2, b3, b4⟩ := hB.cells; go_simp; exact ⟨Stay.refl _, rfl⟩
      case r7s7 =>
        refine @stepPh_quiet _ _ _ _ _ _ _ _ _ _ _ _ (by decide) (by decide) ?_
        intro v W hB hd; simp only [Region.wanted, ↓reduceIte]; (try simp [deps, waitsOn, Region.binds, knowing, isV, ownsV, anyV] at hd); simp only [putAll, List.take_succ_cons, List.take_zero, List.drop_succ_cons, List.drop_zero, Act.put, List.setIfInBounds_toArray, List.set_cons_zero, List.set_cons_succ, Nat.zero_add, Nat.reduceAdd]; obtain ⟨b0, b1, b2, b3, b4⟩ := hB.cells; go_simp; exact ⟨Stay.refl _, rfl⟩
      case r7s8 =>
        refine @stepPh_quiet _ _ _ _ _ _ _ _ _ _ _ _ (by decide) (by decide) ?_
        intro v W hB hd; simp only [Region.wanted, ↓reduceIte]; (try simp [deps, waitsOn, Region.binds, knowing, isV, ownsV, anyV] at hd); simp only [putAll, List.take_succ_cons, List.take_zero, List.drop_succ_cons, List.drop_zero, Act.put, List.setIfInBounds_toArray, List.set_cons_zero, List.set_cons_succ, Nat.zero_add, Nat.reduceAdd]; obtain ⟨b0, b1, b2, b3, b4⟩ := hB.cells; go_simp; exact ⟨Stay.refl _, rfl⟩
      case r7s9 =>
        refine @stepPh_quiet _ _ _ _ _ _ _ _ _ _ _ _ (by decide) (by decide) ?_
        intro v W hB hd; simp only [Region.wanted, ↓reduceIte]; (try simp [deps, waitsOn, Region.binds, knowing, isV, ownsV, anyV] at hd); simp only [putAll, List.take_succ_cons, List.take_zero, List.drop_succ_cons, List.drop_zero, Act.put, List.setIfInBounds_toArray, List.set_cons_zero, List.set_cons_succ, Nat.zero_add, Nat.reduceAdd]; obtain ⟨b0, b1, b2, b3, b4⟩ := hB.cells; go_simp; exact ⟨Stay.refl _, rfl⟩
      case r7s10 =>
        refine @stepPh_quiet _ _ _ _ _ _ _ _ _ _ _ _ (by decide) (by decide) ?_
        intro v W hB hd; simp only [Region.wanted, ↓reduceIte]; (try simp [deps, waitsOn, Region.binds, knowing, isV, ownsV, anyV] at hd); simp only [putAll, List.take_succ_cons, List.take_zero, List.drop_succ_cons, List.drop_zero, Act.put, List.setIfInBounds_toArray, List.set_cons_zero, List.set_cons_succ, Nat.zero_add, Nat.reduceAdd]; obtain ⟨b0, b1, b2, b3, b4⟩ := hB.cells; go_simp; exact ⟨Stay.refl _, rfl⟩
      case r7s11 =>
        refine @stepPh_snd _ _ _ _ _ _ _ _ _ _ _ (by decide) ?_
        intro v W hB hd; refine ⟨rfl, ?_⟩; (try simp [deps, waitsOn, Region.binds, knowing, isV, ownsV, anyV] at hd); simp only [putAll, List.take_succ_cons, List.take_zero, List.drop_succ_cons, List.drop_zero, Act.put, List.setIfInBounds_toArray, List.set_cons_zero, List.set_cons_succ, Nat.zero_add, Nat.reduceAdd]
        obtain ⟨hB, hI⟩ := hB
        go_simp
        refine (trunc_ref hI.1.ref nm n).mono ?_
        rintro e w' ⟨rfl, S', g', hR, hS, hg⟩
        go_simp
        exact ⟨⟨hB.kept hS.kept Hne.out.2.2.1 Hne.out.2.2.2, by rw [eL2.out, eF2.out]; exact After.mk hI H1.out.disk.fresh hR hS hg⟩, rfl⟩
      case r7s12 =>
        refine @stepPh_quiet _ _ _ _ _ _ _ _ _ _ _ _ (by decide) (by decide) ?_
        intro v W hB hd; simp only [Region.wanted, ↓reduceIte]; (try simp [deps, waitsOn, Region.binds, knowing, isV, ownsV, anyV] at hd); simp only [putAll, List.take_succ_cons, List.take_zero, List.drop_succ_cons, List.drop_zero, Act.put, List.setIfInBounds_toArray, List.set_cons_zero, List.set_cons_succ, Nat.zero_add, Nat.reduceAdd]; obtain ⟨b0, b1, b2, b3, b4⟩ := hB.cells; go_simp; exact ⟨Stay.refl _, rfl⟩
      case r7s13 =>
        refine @stepPh_quiet _ _ _ _ _ _ _ _ _ _ _ _ (by decide) (by decide) ?_
        intro v W hB hd; simp only [Region.wanted, ↓reduceIte]; (try simp [deps, waitsOn, Region.binds, knowing, isV, ownsV, anyV] at hd); simp only [putAll, List.take_succ_cons, List.take_zero, List.drop_succ_cons, List.drop_zero, Act.put, List.setIfInBounds_toArray, List.set_cons_zero, List.set_cons_succ, Nat.zero_add, Nat.reduceAdd]; obtain ⟨b0, b1, b2, b3, b4⟩ := hB.cells; go_simp; exact ⟨Stay.refl _, rfl⟩
    · intro i w1 w2 w3 h
      match i, h with
      | 0, h => exact h
      | 1, h => exact h
      | 2, h => exact h
      | 3, h => exact h
      | 4, h => exact h
      | 5, h => exact h
      | 6, h => exact h
      | 7, h => exact h
      | 8, h => exact h
      | 9, h => exact h
      | 10, h => exact h
      | 11, h => exact h
      | 12, h => exact h
      | 13, h => exact h
      | _ + 14, h => exact h
    · rintro v W6 hB hI ⟨-, -, -, -, -, -, -, -, -, -, -, -, -, e13, -⟩
      have e13 := (show v 13 = _ from e13)
      simp only [putAll, List.take_succ_cons, List.take_zero, List.drop_succ_cons, List.drop_zero, Act.put, List.setIfInBounds_toArray, List.set_cons_zero, List.set_cons_succ, Nat.zero_add, Nat.reduceAdd]
      rw [e13]
      clear e13
      go_wp2
      go_ret
      exact ⟨by rw [eE1.out, eE2.out]; first | rfl | simp, hI.from_ HE.out H.out.disk.fresh⟩
  by_cases h6 : k = 6
  · subst h6
    have eE1 := hid (show doE 6 q1 l1 F1 n nm to bs = knownEF l1 F1 nm from rfl)
    have eE2 := hid (show doE 6 q2 l2 F2 n nm to bs = knownEF l2 F2 nm from rfl)
    have eF1 := hid (show doF 6 q1 l1 F1 n nm to bs = dropF l1 F1 nm from rfl)
    have eF2 := hid (show doF 6 q2 l2 F2 n nm to bs = dropF l2 F2 nm from rfl)
    have eL1 := hid (show doL 6 l1 = burnL l1 from rfl)
    have eL2 := hid (show doL 6 l2 = burnL l2 from rfl)
    go_wp2_with fail
    apply wp_drawn_ph 3 7 (OpBox w.heap.size kd n nm to A ln c) (Mid w1 S d m y g q1 l1 F1 q2 l2 F2) (Mid w1 S d m y g q1 (doL 6 l1) (doF 6 q1 l1 F1 n nm to bs) q2 l2 F2) (After w1 S d m y g q1 (doL 6 l1) (doF 6 q1 l1 F1 n nm to bs) q2 (doL 6 l2) (doF 6 q2 l2 F2 n nm to bs)) [isV _, isV _, isV _, isV _, isV _, isV _, isV _, isV _, isV _, isV _] (by kernel_rfl)
    · kernel_rfl
    · kernel_rfl
    · intro W hE
      exact ⟨Hbx.out.ext hE, H1.out.ext hE, Kept2.of_ext hE⟩
    · refine ⟨?r9s0, ?r9s1, ?r9s2, ?r9s3, ?r9s4, ?r9s5, ?r9s6, ?r9s7, ?r9s8, ?r9s9, trivial⟩
      case r9s0 =>
        refine @stepPh_quiet _ _ _ _ _ _ _ _ _ _ _ _ (by decide) (by decide) ?_
        intro v W hB hd; simp only [Region.wanted, ↓reduceIte]; (try simp [deps, waitsOn, Region.binds, knowing, isV, ownsV, anyV] at hd); simp only [putAll, List.take_succ_cons, List.take_zero, List.drop_succ_cons, List.drop_zero, Act.put, List.setIfInBounds_toArray, List.set_cons_zero, List.set_cons_succ, Nat.zero_add, Nat.reduceAdd]; obtain ⟨b0, b1, b2, b3, b4⟩ := hB.cells; go_simp; exact ⟨Stay.refl _, rfl⟩
      case r9s1 =>
        refine @stepPh_quiet _ _ _ _ _ _ _ _ _ _ _ _ (by decide) (by decide) ?_
        intro v W hB hd; simp only [Region.wanted, ↓reduceIte]; (try simp [deps, waitsOn, Region.binds, knowing, isV, ownsV, anyV] at hd); simp only [putAll, List.take_succ_cons, List.take_zero, List.drop_succ_cons, List.drop_zero, Act.put, List.setIfInBounds_toArray, List.set_cons_zero, List.set_cons_succ, Nat.zero_add, Nat.reduceAdd]; obtain ⟨b0, b1, b2, b3, b4⟩ := hB.cells; go_simp; exact ⟨Stay.refl _, rfl⟩
      case r9s2 =>
        refine @stepPh_quiet _ _ _ _ _ _ _ _ _ _ _ _ (by decide) (by decide) ?_
        intro v W hB hd; simp only [Region.wanted, ↓reduceIte]; (try simp [deps, waitsOn, Region.binds, knowing, isV, ownsV, anyV] at hd); simp only [putAll, List.take_succ_cons, List.take_zero, List.drop_succ_cons, List.drop_zero, Act.put, List.setIfInBounds_toArray, List.set_cons_zero, List.set_cons_succ, Nat.zero_add, Nat.reduceAdd]; obtain ⟨b0, b1, b2, b3, b4⟩ := hB.cells; go_simp; exact ⟨Stay.refl _, rfl⟩
      case r9s3 =>
        refine @stepPh_fst _ _ _ _ _ _ _ _ _ _ _ ?_
        intro v W hB hd; refine ⟨rfl, ?_⟩; (try simp [deps, waitsOn, Region.binds, knowing, isV, ownsV, anyV] at hd); simp only [putAll, List.take_succ_cons, List.take_zero, List.drop_succ_cons, List.drop_zero, Act.put, List.setIfInBounds_toArray, List.set_cons_zero, List.set_cons_succ, Nat.zero_add, Nat.reduceAdd]
        obtain ⟨hB, hT, hK⟩ := hB
        go_simp
        refine (remove_at hT.disk nm hnm).mono ?_
        rintro e w' ⟨rfl, hD, hK'⟩
        go_simp
        exact ⟨⟨hB.kept hK' Hne.out.1 Hne.out.2.1, by rw [eL1.out, eF1.out]; exact ⟨hT.fst hD hK', hK.trans hK'⟩⟩, rfl⟩
      case r9s4 =>
        refine @stepPh_quiet _ _ _ _ _ _ _ _ _ _ _ _ (by decide) (by decide) ?_
        intro v W hB hd; simp only [Region.wanted, ↓reduceIte]; (try simp [deps, waitsOn, Region.binds, knowing, isV, ownsV, anyV] at hd); simp only [putAll, List.take_succ_cons, List.take_zero, List.drop_succ_cons, List.drop_zero, Act.put, List.setIfInBounds_toArray, List.set_cons_zero, List.set_cons_succ, Nat.zero_add, Nat.reduceAdd]; obtain ⟨b0, b1, b2, b3, b4⟩ := hB.cells; go_simp; exact ⟨Stay.refl _, rfl⟩
      case r9s5 =>
        refine @stepPh_quiet _ _ _ _ _ _ _ _ _ _ _ _ (by decide) (by decide) ?_
        intro v W hB hd; simp only [Region.wanted, ↓reduceIte]; (try simp [deps, waitsOn, Region.binds, knowing, isV, ownsV, anyV] at hd); simp only [putAll, List.take_succ_cons, List.take_zero, List.drop_succ_cons, List.drop_zero, Act.put, List.setIfInBounds_toArray, List.set_cons_zero, List.set_cons_succ, Nat.zero_add, Nat.reduceAdd]; obtain ⟨b0, b1, b2, b3, b4⟩ := hB.cells; go_simp; exact ⟨Stay.refl _, rfl⟩
      case r9s6 =>
        refine @stepPh_quiet _ _ _ _ _ _ _ _ _ _ _ _ (by decide) (by decide) ?_
        intro v W hB hd; simp only [Region.wanted, ↓reduceIte]; (try simp [deps, waitsOn, Region.binds, knowing, isV, ownsV, anyV] at hd); simp only [putAll, List.take_succ_cons, List.take_zero, List.drop_succ_cons, List.drop_zero, Act.put, List.setIfInBounds_toArray, List.set_cons_zero, List.set_cons_succ, Nat.zero_add, Nat.reduceAdd]; obtain ⟨b0, b1, b2, b3, b4⟩ := hB.cells; go_simp; exact ⟨Stay.refl _, rfl⟩
      case r9s7 =>
        refine @stepPh_snd _ _ _ _ _ _ _ _ _ _ _ (by decide) ?_
        intro v W hB hd; refine ⟨rfl, ?_⟩; (try simp [deps, waitsOn, Region.binds, knowing, isV, ownsV, anyV] at hd); simp only [putAll, List.take_succ_cons, List.take_zero, List.drop_succ_cons, List.drop_zero, Act.put, List.setIfInBounds_toArray, List.set_cons_zero, List.set_cons_succ, Nat.zero_add, Nat.reduceAdd]
        obtain ⟨hB, hI⟩ := hB
        go_simp
        refine (remove_ref hI.1.ref nm).mono ?_
        rintro e w' ⟨rfl, S', g', hR, hS, hg⟩
        go_simp
        exact ⟨⟨hB.kept hS.kept Hne.out.2.2.1 Hne.out.2.2.2, by rw [eL2.out, eF2.out]; exact After.mk hI H1.out.disk.fresh hR hS hg⟩, rfl⟩
      case r9s8 =>
        refine @stepPh_quiet _ _ _ _ _ _ _ _ _ _ _ _ (by decide) (by decide) ?_
        intro v W hB hd; simp only [Region.wanted, ↓reduceIte]; (try simp [deps, waitsOn, Region.binds, knowing, isV, ownsV, anyV] at hd); simp only [putAll, List.take_succ_cons, List.take_zero, List.drop_succ_cons, List.drop_zero, Act.put, List.setIfInBounds_toArray, List.set_cons_zero, List.set_cons_succ, Nat.zero_add, Nat.reduceAdd]; obtain ⟨b0, b1, b2, b3, b4⟩ := hB.cells; go_simp; exact ⟨Stay.refl _, rfl⟩
      case r9s9 =>
        refine @stepPh_quiet _ _ _ _ _ _ _ _ _ _ _ _ (by decide) (by decide) ?_
        intro v W hB hd; simp only [Region.wanted, ↓reduceIte]; (try simp [deps, waitsOn, Region.binds, knowing, isV, ownsV, anyV] at hd); simp only [putAll, List.take_succ_cons, List.take_zero, List.drop_succ_cons, List.drop_zero, Act.put, List.setIfInBounds_toArray, List.set_cons_zero, List.set_cons_succ, Nat.zero_add, Nat.reduceAdd]; obtain ⟨b0, b1, b2, b3, b4⟩ := hB.cells; go_simp; exact ⟨Stay.refl _, rfl⟩
    · intro i w1 w2 w3 h
      match i, h with
      | 0, h => exact h
      | 1, h => exact h
      | 2, h => exact h
      | 3, h => exact h
      | 4, h => exact h
      | 5, h => exact h
      | 6, h => exact h
      | 7, h => exact h
      | 8, h => exact h
      | 9, h => exact h
      | _ + 10, h => exact h
    · rintro v W6 hB hI ⟨-, -, -, -, -, -, -, -, -, e9, -⟩
      have e9 := (show v 9 = _ from e9)
      simp only [putAll, List.take_succ_cons, List.take_zero, List.drop_succ_cons, List.drop_zero, Act.put, List.setIfInBounds_toArray, List.set_cons_zero, List.set_cons_succ, Nat.zero_add, Nat.reduceAdd]
      rw [e9]
      clear e9
      go_wp2
      go_ret
      exact ⟨by rw [eE1.out, eE2.out]; first | rfl | simp, hI.from_ HE.out H.out.disk.fresh⟩
  by_cases h7 : k = 7
  · subst h7
    have eE1 := hid (show doE 7 q1 l1 F1 n nm to bs = 0 from rfl)
    have eE2 := hid (show doE 7 q2 l2 F2 n nm to bs = 0 from rfl)
    have eF1 := hid (show doF 7 q1 l1 F1 n nm to bs = crashF n F1 from rfl)
    have eF2 := hid (show doF 7 q2 l2 F2 n nm to bs = crashF n F2 from rfl)
    have eL1 := hid (show doL 7 l1 = -1 from rfl)
    have eL2 := hid (show doL 7 l2 = -1 from rfl)
    obtain ⟨b0, b1, b2, b3, b4⟩ := Hbx.out.cells
    go_wp2_with fail
    clear b0 b1 b2 b3 b4
    refine (crash_at H1.out.disk n hn).mono ?_
    rintro e w2 ⟨rfl, hD, hK⟩
    have H2 := hid (H1.out.fst hD hK)
    have HB2 := hid (Hbx.out.kept hK Hne.out.1 Hne.out.2.1)
    have HK2 := hid hK
    clear hD hK
    obtain ⟨b0, b1, b2, b3, b4⟩ := HB2.out.cells
    go_wp2_with fail
    clear b0 b1 b2 b3 b4
    refine (crash_ref H2.out.ref n hn).mono ?_
    rintro e w3 ⟨rfl, S', g', hR, hS, hg⟩
    have hM : Mid w1 S d m y g q1 (-1) (crashF n F1) q2 l2 F2 w2 := ⟨H2.out, HK2.out⟩
    have HI := hid (After.mk hM H1.out.disk.fresh hR hS hg)
    clear hR hS hg hM
    go_wp2
    go_ret
    exact ⟨by rw [eE1.out, eE2.out]; rfl, by rw [eL1.out, eL2.out, eF1.out, eF2.out]; exact HI.out.from_ HE.out H.out.disk.fresh⟩
  by_cases h8 : k = 8
  · subst h8
    have eE1 := hid (show doE 8 q1 l1 F1 n nm to bs = turnEF F1 nm n from rfl)
    have eE2 := hid (show doE 8 q2 l2 F2 n nm to bs = turnEF F2 nm n from rfl)
    have eF1 := hid (show doF 8 q1 l1 F1 n nm to bs = turnF F1 nm n from rfl)
    have eF2 := hid (show doF 8 q2 l2 F2 n nm to bs = turnF F2 nm n from rfl)
    have eL1 := hid (show doL 8 l1 = l1 from rfl)
    have eL2 := hid (show doL 8 l2 = l2 from rfl)
    go_wp2_with fail
    apply wp_drawn_ph 5 11 (OpBox w.heap.size kd n nm to A ln c) (Mid w1 S d m y g q1 l1 F1 q2 l2 F2) (Mid w1 S d m y g q1 (doL 8 l1) (doF 8 q1 l1 F1 n nm to bs) q2 l2 F2) (After w1 S d m y g q1 (doL 8 l1) (doF 8 q1 l1 F1 n nm to bs) q2 (doL 8 l2) (doF 8 q2 l2 F2 n nm to bs)) [isV _, isV _, isV _, isV _, isV _, isV _, isV _, isV _, isV _, isV _, isV _, isV _, isV _, isV _] (by kernel_rfl)
    · kernel_rfl
    · kernel_rfl
    · intro W hE
      exact ⟨Hbx.out.ext hE, H1.out.ext hE, Kept2.of_ext hE⟩
    · refine ⟨?r15s0, ?r15s1, ?r15s2, ?r15s3, ?r15s4, ?r15s5, ?r15s6, ?r15s7, ?r15s8, ?r15s9, ?r15s10, ?r15s11, ?r15s12, ?r15s13, trivial⟩
      case r15s0 =>
        refine @stepPh_quiet _ _ _ _ _ _ _ _ _ _ _ _ (by decide) (by decide) ?_
        intro v W hB hd; simp only [Region.wanted, ↓reduceIte]; (try simp [deps, waitsOn, Region.binds, knowing, isV, ownsV, anyV] at hd); simp only [putAll, List.take_succ_cons, List.take_zero, List.drop_succ_cons, List.drop_zero, Act.put, List.setIfInBounds_toArray, List.set_cons_zero, List.set_cons_succ, Nat.zero_add, Nat.reduceAdd]; obtain ⟨b0, b1, b2, b3, b4⟩ := hB.cells; go_simp; exact ⟨Stay.refl _, rfl⟩
      case r15s1 =>
        refine @stepPh_quiet _ _ _ _ _ _ _ _ _ _ _ _ (by decide) (by decide) ?_
        intro v W hB hd; simp only [Region.wanted, ↓reduceIte]; (try simp [deps, waitsOn, Region.binds, knowing, isV, ownsV, anyV] at hd); simp only [putAll, List.take_succ_cons, List.take_zero, List.drop_succ_cons, List.drop_zero, Act.put, List.setIfInBounds_toArray, List.set_cons_zero, List.set_cons_succ, Nat.zero_add, Nat.reduceAdd]; obtain ⟨b0, b1, b2, b3, b4⟩ := hB.cells; go_simp; exact ⟨Stay.refl _, rfl⟩
      case r15s2 =>
        refine @stepPh_quiet _ _ _ _ _ _ _ _ _ _ _ _ (by decide) (by decide) ?_
        intro v W hB hd; simp only [Region.wanted, ↓reduceIte]; (try simp [deps, waitsOn, Region.binds, knowing, isV, ownsV, anyV] at hd); simp only [putAll, List.take_succ_cons, List.take_zero, List.drop_succ_cons, List.drop_zero, Act.put, List.setIfInBounds_toArray, List.set_cons_zero, List.set_cons_succ, Nat.zero_add, Nat.reduceAdd]; obtain ⟨b0, b1, b2, b3, b4⟩ := hB.cells; go_simp; exact ⟨Stay.refl _, rfl⟩
      case r15s3 =>
        refine @stepPh_quiet _ _ _ _ _ _ _ _ _ _ _ _ (by decide) (by decide) ?_
        intro v W hB hd; simp only [Region.wanted, ↓reduceIte]; (try simp [deps, waitsOn, Region.binds, knowing, isV, ownsV, anyV] at hd); simp only [putAll, List.take_succ_cons, List.take_zero, List.drop_succ_cons, List.drop_zero, Act.put, List.setIfInBounds_toArray, List.set_cons_zero, List.set_cons_succ, Nat.zero_add, Nat.reduceAdd]; obtain ⟨b0, b1, b2, b3, b4⟩ := hB.cells; go_simp; exact ⟨Stay.refl _, rfl⟩
      case r15s4 =>
        refine @stepPh_quiet _ _ _ _ _ _ _ _ _ _ _ _ (by decide) (by decide) ?_
        intro v W hB hd; simp only [Region.wanted, ↓reduceIte]; (try simp [deps, waitsOn, Region.binds, knowing, isV, ownsV, anyV] at hd); simp only [putAll, List.take_succ_cons, List.take_zero, List.drop_succ_cons, List.drop_zero, Act.put, List.setIfInBounds_toArray, List.set_cons_zero, List.set_cons_succ, Nat.zero_add, Nat.reduceAdd]; obtain ⟨b0, b1, b2, b3, b4⟩ := hB.cells; go_simp; exact ⟨Stay.refl _, rfl⟩
      case r15s5 =>
        refine @stepPh_fst _ _ _ _ _ _ _ _ _ _ _ ?_
        intro v W hB hd; refine ⟨rfl, ?_⟩; (try simp [deps, waitsOn, Region.binds, knowing, isV, ownsV, anyV] at hd); simp only [putAll, List.take_succ_cons, List.take_zero, List.drop_succ_cons, List.drop_zero, Act.put, List.setIfInBounds_toArray, List.set_cons_zero, List.set_cons_succ, Nat.zero_add, Nat.reduceAdd]
        obtain ⟨hB, hT, hK⟩ := hB
        go_simp
        refine (turn_at hT.disk nm hnm n).mono ?_
        rintro e w' ⟨rfl, hD, hK'⟩
        go_simp
        exact ⟨⟨hB.kept hK' Hne.out.1 Hne.out.2.1, by rw [eL1.out, eF1.out]; exact ⟨hT.fst hD hK', hK.trans hK'⟩⟩, rfl⟩
      case r15s6 =>
        refine @stepPh_quiet _ _ _ _ _ _ _ _ _ _ _ _ (by decide) (by decide) ?_
        intro v W hB hd; simp only [Region.wanted, ↓reduceIte]; (try simp [deps, waitsOn, Region.binds, knowing, isV, ownsV, anyV] at hd); simp only [putAll, List.take_succ_cons, List.take_zero, List.drop_succ_cons, List.drop_zero, Act.put, List.setIfInBounds_toArray, List.set_cons_zero, List.set_cons_succ, Nat.zero_add, Nat.reduceAdd]; obtain ⟨b0, b1, b2, b3, b4⟩ := hB.cells; go_simp; exact ⟨Stay.refl _, rfl⟩
      case r15s7 =>
        refine @stepPh_quiet _ _ _ _ _ _ _ _ _ _ _ _ (by decide) (by decide) ?_
        intro v W hB hd; simp only [Region.wanted, ↓reduceIte]; (try simp [deps, waitsOn, Region.binds, knowing, isV, ownsV, anyV] at hd); simp only [putAll, List.take_succ_cons, List.take_zero, List.drop_succ_cons, List.drop_zero, Act.put, List.setIfInBounds_toArray, List.set_cons_zero, List.set_cons_succ, Nat.zero_add, Nat.reduceAdd]; obtain ⟨b0, b1, b2, b3, b4⟩ := hB.cells; go_simp; exact ⟨Stay.refl _, rfl⟩
      case r15s8 =>
        refine @stepPh_quiet _ _ _ _ _ _ _ _ _ _ _ _ (by decide) (by decide) ?_
        intro v W hB hd; simp only [Region.wanted, ↓reduceIte]; (try simp [deps, waitsOn, Region.binds, knowing, isV, ownsV, anyV] at hd); simp only [putAll, List.take_succ_cons, List.take_zero, List.drop_succ_cons, List.drop_zero, Act.put, List.setIfInBounds_toArray, List.set_cons_zero, List.set_cons_succ, Nat.zero_add, Nat.reduceAdd]; obtain ⟨b0, b1, b2, b3, b4⟩ := hB.cells; go_simp; exact ⟨Stay.refl _, rfl⟩
      case r15s9 =>
        refine @stepPh_quiet _ _ _ _ _ _ _ _ _ _ _ _ (by decide) (by decide) ?_
        intro v W hB hd; simp only [Region.wanted, ↓reduceIte]; (try simp [deps, waitsOn, Region.binds, knowing, isV, ownsV, anyV] at hd); simp only [putAll, List.take_succ_cons, List.take_zero, List.drop_succ_cons, List.drop_zero, Act.put, List.setIfInBounds_toArray, List.set_cons_zero, List.set_cons_succ, Nat.zero_add, Nat.reduceAdd]; obtain ⟨b0, b1, b2, b3, b4⟩ := hB.cells; go_simp; exact ⟨Stay.refl _, rfl⟩
      case r15s10 =>
        refine @stepPh_quiet _ _ _ _ _ _ _ _ _ _ _ _ (by decide) (by decide) ?_
        intro v W hB hd; simp only [Region.wanted, ↓reduceIte]; (try simp [deps, waitsOn, Region.binds, knowing, isV, ownsV, anyV] at hd); simp only [putAll, List.take_succ_cons, List.take_zero, List.drop_succ_cons, List.drop_zero, Act.put, List.setIfInBounds_toArray, List.set_cons_zero, List.set_cons_succ, Nat.zero_add, Nat.reduceAdd]; obtain ⟨b0, b1, b2, b3, b4⟩ := hB.cells; go_simp; exact ⟨Stay.refl _, rfl⟩
      case r15s11 =>
        refine @stepPh_snd _ _ _ _ _ _ _ _ _ _ _ (by decide) ?_
        intro v W hB hd; refine ⟨rfl, ?_⟩; (try simp [deps, waitsOn, Region.binds, knowing, isV, ownsV, anyV] at hd); simp only [putAll, List.take_succ_cons, List.take_zero, List.drop_succ_cons, List.drop_zero, Act.put, List.setIfInBounds_toArray, List.set_cons_zero, List.set_cons_succ, Nat.zero_add, Nat.reduceAdd]
        obtain ⟨hB, hI⟩ := hB
        go_simp
        refine (turn_ref hI.1.ref nm n).mono ?_
        rintro e w' ⟨rfl, S', g', hR, hS, hg⟩
        go_simp
        exact ⟨⟨hB.kept hS.kept Hne.out.2.2.1 Hne.out.2.2.2, by rw [eL2.out, eF2.out]; exact After.mk hI H1.out.disk.fresh hR hS hg⟩, rfl⟩
      case r15s12 =>
        refine @stepPh_quiet _ _ _ _ _ _ _ _ _ _ _ _ (by decide) (by decide) ?_
        intro v W hB hd; simp only [Region.wanted, ↓reduceIte]; (try simp [deps, waitsOn, Region.binds, knowing, isV, ownsV, anyV] at hd); simp only [putAll, List.take_succ_cons, List.take_zero, List.drop_succ_cons, List.drop_zero, Act.put, List.setIfInBounds_toArray, List.set_cons_zero, List.set_cons_succ, Nat.zero_add, Nat.reduceAdd]; obtain ⟨b0, b1, b2, b3, b4⟩ := hB.cells; go_simp; exact ⟨Stay.refl _, rfl⟩
      case r15s13 =>
        refine @stepPh_quiet _ _ _ _ _ _ _ _ _ _ _ _ (by decide) (by decide) ?_
        intro v W hB hd; simp only [Region.wanted, ↓reduceIte]; (try simp [deps, waitsOn, Region.binds, knowing, isV, ownsV, anyV] at hd); simp only [putAll, List.take_succ_cons, List.take_zero, List.drop_succ_cons, List.drop_zero, Act.put, List.setIfInBounds_toArray, List.set_cons_zero, List.set_cons_succ, Nat.zero_add, Nat.reduceAdd]; obtain ⟨b0, b1, b2, b3, b4⟩ := hB.cells; go_simp; exact ⟨Stay.refl _, rfl⟩
    · intro i w1 w2 w3 h
      match i, h with
      | 0, h => exact h
      | 1, h => exact h
      | 2, h => exact h
      | 3, h => exact h
      | 4, h => exact h
      | 5, h => exact h
      | 6, h => exact h
      | 7, h => exact h
      | 8, h => exact h
      | 9, h => exact h
      | 10, h => exact h
      | 11, h => exact h
      | 12, h => exact h
      | 13, h => exact h
      | _ + 14, h => exact h
    · rintro v W6 hB hI ⟨-, -, -, -, -, -, -, -, -, -, -, -, -, e13, -⟩
      have e13 := (show v 13 = _ from e13)
      simp only [putAll, List.take_succ_cons, List.take_zero, List.drop_succ_cons, List.drop_zero, Act.put, List.setIfInBounds_toArray, List.set_cons_zero, List.set_cons_succ, Nat.zero_add, Nat.reduceAdd]
      rw [e13]
      clear e13
      go_wp2
      go_ret
      exact ⟨by rw [eE1.out, eE2.out]; first | rfl | simp, hI.from_ HE.out H.out.disk.fresh⟩
  have eE1 := hid (show doE k q1 l1 F1 n nm to bs = appE q1 l1 F1 nm (bs.take 200) by unfold doE; simp only [h3, h4, h5, h6, h7, h8, if_false])
  have eE2 := hid (show doE k q2 l2 F2 n nm to bs = appE q2 l2 F2 nm (bs.take 200) by unfold doE; simp only [h3, h4, h5, h6, h7, h8, if_false])
  have eF1 := hid (show doF k q1 l1 F1 n nm to bs = appF q1 l1 F1 nm (bs.take 200) by unfold doF; simp only [h3, h4, h5, h6, h7, h8, if_false])
  have eF2 := hid (show doF k q2 l2 F2 n nm to bs = appF q2 l2 F2 nm (bs.take 200) by unfold doF; simp only [h3, h4, h5, h6, h7, h8, if_false])
  have eL1 := hid (show doL k l1 = burnL l1 by unfold doL; simp only [h7, h8, if_false])
  have eL2 := hid (show doL k l2 = burnL l2 by unfold doL; simp only [h7, h8, if_false])
  have Ht := hid (show min ln 200 = (bs.take 200).length by rw [List.length_take, ← Hln.out]; omega)
  have HrA := hid (show RB w1 A (bs.take 200) from (RB.take (RK.rv HA.out) 200).below HE.out)
  have HAX := hid (RS.take HA.out 200)
  generalize bs.take 200 = X at HAX eE1 eE2 eF1 eF2 Ht HrA
  obtain ⟨t, ht⟩ : ∃ t, t = min ln 200 := ⟨_, rfl⟩
  have ht200 : t ≤ 200 := by omega
  have htc : t ≤ c := by omega
  have hsz1 := HE.out.size
  obtain ⟨b0, b1, b2, b3, b4⟩ := Hbx.out.cells
  have HEe := hid (show Ext w1 (w1.alloc (.cells #[] 5)) from (Below.refl _ _).alloc (Nat.le_refl _) _)
  have HOe := hid (OB_empty w1 w1.heap.size (Nat.le_refl _))
  have b4' := cell_below HEe.out b4
  have B2 := hid b2
  have Hrr := hid (RB.below HrA.out HEe.out)
  go_wp2_with fail
  clear h3 h4 h5 h6 h7 h8
  refine (short_at A ln c _ hc).mono ?_
  rintro e w' ⟨rfl, rfl⟩
  rw [← ht] at Ht ⊢
  have Htm := hid ht.symm
  clear ht
  go_wp2_with (at_builtin; refine wpList_appB (w0 := w1) rfl (.tmp 90) (.tmp 93) rfl w1.heap.size _ [] rfl HOe HEe (by simp) A c t X rfl Ht Hrr (by simp; omega) ?_; intro v2 W2 HO2' HB2 HG2; have HO2 : Hid (OB W2 w1.heap.size v2 X) := HO2'; clear HO2'; obtain ⟨A2, c2, ev2, hc2, hr2⟩ := OB.read HO2.out; rw [← Ht.out] at ev2 hc2; subst ev2; clear b0 b1 b2 b3 b4 b4'; have b2' := cell_below HB2.out B2.out)
  have HE2 := hid (show Ext w1 W2 from HB2.out)
  obtain ⟨ob, ho1, ho2, ho3⟩ := OB.block_ HO2.out (by have := HG2.out.grown.size; simp at this; omega)
  obtain ⟨hT2, hS2⟩ := H1.out.own_ HE2.out ho1 ho2
  have HT2 := hid hT2; have HS2 := hid hS2
  have Hob := hid (show d ≠ ob ∧ m ≠ ob ∧ y ≠ ob ∧ g ≠ ob from by
    have h1 := H1.out.disk.lt; have h2 := H1.out.ref.lt; have h3 := H1.out.ref.glt
    omega)
  have Ho3 := hid ho3
  have hrk : RK W2 (fun k => k < W2.heap.size ∧ ¬ (k = d ∨ k = m)) A2 (bvs X) := RK.of_rv hr2 fun b o e' hlt => ⟨hlt, by
    have := Ho3.out b (by rw [e']; rfl)
    have h := Hob.out
    rintro (h' | h') <;> omega⟩
  have Hrk := hid hrk
  clear hT2 hS2 ho3 hrk hr2 HG2
  refine (append_at2 HT2.out.disk nm hnm A2 t c2 X Ht.out (by omega) Hrk.out).mono ?_
  rintro e w3 ⟨rfl, hD, hK⟩
  have HT3 := hid (HT2.out.fst hD hK)
  have HS3 := hid (HS2.out.trans (BStep.of_kept (d := d) (m := m) (y := y) (g := g) hK HT2.out.disk.fresh) (.inl rfl))
  have HO3 := hid (HO2.out.keptAt hK (fun k hk => by have := Ho3.out k hk; have := Hob.out; omega))
  have HX3 := hid ((Hbx.out.ext HE2.out).kept hK Hne.out.1 Hne.out.2.1)
  have hz3 := hK.size
  clear hD hK b2'
  go_wp2_with fail
  go_loopw [9] (fun i wr => ∃ k : Nat, k ≤ t ∧ i = .int .i64 (k : Int) ∧ Hid (∃ xs, xs.length = t ∧ OB wr w1.heap.size (.slice A2 t c2) xs) ∧ Hid (Kept2 ob ob w3 wr)) (fun i _ => t - (intOf i).toNat)
  case atStart => exact ⟨0, by omega, rfl, ⟨X, Ht.out.symm, HO3.out⟩, Kept2.refl _ _ _⟩
  case round =>
    obtain ⟨j, hj, rfl, HO, HK⟩ := hrel
    by_cases hlt : j < t
    · obtain ⟨xs, hxl, hox⟩ := HO.out
      obtain ⟨g2, cb2, ev2, hg1, hg2, hcb, hcl⟩ := OB.cellAt hox (by omega)
      simp only [Value.slice.injEq] at ev2
      obtain ⟨rfl, -, rfl⟩ := ev2
      obtain ⟨hck, hfk⟩ := hcl j (by omega)
      have hgo : g2 = ob := Ho3.out g2 rfl
      subst hgo
      have hst := OB.stored hox hxl.symm j 7
      have hlt' : (j : Int) < (t : Int) := by omega
      have hj00 : ¬ ((j : Int) < 0) := by omega
      have hj0 : (0 : Int) ≤ (j : Int) := by omega
      have HO' : Hid (∃ xs, xs.length = t ∧ OB (wr.setCell ⟨g2, j, none⟩ (.int .u8 7)) w1.heap.size (.slice (some ⟨g2, 0, none⟩) t c2) xs) := ⟨xs.set j 7, by simpa using hxl, hst⟩
      have HK' : Hid (Kept2 g2 g2 w3 (wr.setCell ⟨g2, j, none⟩ (.int .u8 7))) := HK.out.trans ⟨rfl, rfl, rfl, by simp, fun k hk h1 _ => heap_setCell_other wr ⟨g2, j, none⟩ k _ (fun e => h1 e)⟩
      clear hcl hst hox HO HK
      go_wp2_with fail
      go_roundw
      case rel => exact ⟨j + 1, by omega, by go_num, HO', HK'⟩
      case measure => simp [intOf]; omega
    · obtain rfl : j = t := by omega
      have hlt : ¬ ((j : Int) < (j : Int)) := by omega
      have hbl : w.heap.size < ob := by have := (Array.getElem?_eq_some_iff.1 Hbx.out).1; omega
      have hT4 := HT3.out.wrote HK.out (.inr rfl) Hob.out.1 Hob.out.2.1 Hob.out.2.2.1 Hob.out.2.2.2
      have hS4 := HS3.out.wrote HK.out ho1
      have HT4 := hid hT4; have HS4 := hid hS4
      have HX4 := hid (HX3.out.kept HK.out (by omega) (by omega))
      have HA4 := hid (RS.step HAX.out ((BStep.of_ext HE.out H.out.disk.fresh).trans hS4 (.inl rfl)) H.out.disk.own H.out.disk.ownM H.out.ref.own H.out.ref.ownG)
      obtain ⟨b0, b1, b2, b3, b4⟩ := HX4.out.cells
      have B2 := hid b2; have B4 := hid b4
      clear b0 b1 b2 b3 b4 hT4 hS4 HK HO
      go_wp2_with fail
      apply wp_drawn_late 7 0 [isV _, isV _, isV _, isV _, isV _, isV _, isV _] (by decide) (by kernel_rfl)
      · kernel_rfl
      · kernel_rfl
      · refine ⟨?r22s0, ?r22s1, ?r22s2, ?r22s3, ?r22s4, ?r22s5, ?r22s6, trivial⟩
        case r22s0 =>
          intro v W hE hd; simp only [Region.wanted, ↓reduceIte]; (try simp [deps, waitsOn, Region.binds, knowing, isV, ownsV, anyV] at hd); simp only [putAll, List.take_succ_cons, List.take_zero, List.drop_succ_cons, List.drop_zero, Act.put, List.setIfInBounds_toArray, List.set_cons_zero, List.set_cons_succ, Nat.zero_add, Nat.reduceAdd]; go_simp; exact ⟨Below.refl _ _, rfl⟩
        case r22s1 =>
          intro v W hE hd; simp only [Region.wanted, ↓reduceIte]; (try simp [deps, waitsOn, Region.binds, knowing, isV, ownsV, anyV] at hd); simp only [putAll, List.take_succ_cons, List.take_zero, List.drop_succ_cons, List.drop_zero, Act.put, List.setIfInBounds_toArray, List.set_cons_zero, List.set_cons_succ, Nat.zero_add, Nat.reduceAdd]; go_simp; exact ⟨Below.refl _ _, rfl⟩
        case r22s2 =>
          intro v W hE hd; simp only [Region.wanted, ↓reduceIte]; (try simp [deps, waitsOn, Region.binds, knowing, isV, ownsV, anyV] at hd); simp only [putAll, List.take_succ_cons, List.take_zero, List.drop_succ_cons, List.drop_zero, Act.put, List.setIfInBounds_toArray, List.set_cons_zero, List.set_cons_succ, Nat.zero_add, Nat.reduceAdd]; go_simp; exact ⟨Below.refl _ _, rfl⟩
        case r22s3 =>
          intro v W hE hd; simp only [Region.wanted, ↓reduceIte]; (try simp [deps, waitsOn, Region.binds, knowing, isV, ownsV, anyV] at hd); simp only [putAll, List.take_succ_cons, List.take_zero, List.drop_succ_cons, List.drop_zero, Act.put, List.setIfInBounds_toArray, List.set_cons_zero, List.set_cons_succ, Nat.zero_add, Nat.reduceAdd]
          have e1 := cell_below hE B2.out
          go_simp
          exact ⟨Below.refl _ _, rfl⟩
        case r22s4 =>
          intro v W hE hd; simp only [Region.wanted, ↓reduceIte]; (try simp [deps, waitsOn, Region.binds, knowing, isV, ownsV, anyV] at hd); simp only [putAll, List.take_succ_cons, List.take_zero, List.drop_succ_cons, List.drop_zero, Act.put, List.setIfInBounds_toArray, List.set_cons_zero, List.set_cons_succ, Nat.zero_add, Nat.reduceAdd]; go_simp; exact ⟨Below.refl _ _, rfl⟩
        case r22s5 =>
          intro v W hE hd; simp only [Region.wanted, ↓reduceIte]; (try simp [deps, waitsOn, Region.binds, knowing, isV, ownsV, anyV] at hd); simp only [putAll, List.take_succ_cons, List.take_zero, List.drop_succ_cons, List.drop_zero, Act.put, List.setIfInBounds_toArray, List.set_cons_zero, List.set_cons_succ, Nat.zero_add, Nat.reduceAdd]
          have e1 := cell_below hE B4.out
          go_simp
          exact ⟨Below.refl _ _, rfl⟩
        case r22s6 =>
          intro v W hE hd; simp only [Region.wanted, ↓reduceIte]; (try simp [deps, waitsOn, Region.binds, knowing, isV, ownsV, anyV] at hd); simp only [putAll, List.take_succ_cons, List.take_zero, List.drop_succ_cons, List.drop_zero, Act.put, List.setIfInBounds_toArray, List.set_cons_zero, List.set_cons_succ, Nat.zero_add, Nat.reduceAdd]
          go_simp
          refine (short_at A ln c _ hc).mono ?_
          rintro e w' ⟨rfl, rfl⟩
          go_simp
          exact ⟨Below.refl _ _, rfl⟩
      · rintro v W6 hE ⟨e0, e1, -, e3, -, -, e6, -⟩
        have e0 := (show v 0 = _ from e0)
        have e1 := (show v 1 = _ from e1)
        have e3 := (show v 3 = _ from e3)
        have e6 := (show v 6 = _ from e6)
        simp only [putAll, List.take_succ_cons, List.take_zero, List.drop_succ_cons, List.drop_zero, Act.put, List.setIfInBounds_toArray, List.set_cons_zero, List.set_cons_succ, Nat.zero_add, Nat.reduceAdd]
        rw [e0, e1, e3, e6, Htm.out]
        clear e0 e1 e3 e6
        have HE6 := hid hE
        clear hE
        go_wp2_with fail
        refine (append_ref (HT4.out.ref.ext HE6.out) nm hnm A j c X Ht.out (by omega) (RS.kept (d := d) (m := m) HA4.out (Kept2.of_ext HE6.out) HT4.out.disk.own HT4.out.disk.ownM)).mono ?_
        rintro e w7 ⟨rfl, S', g', hR, hS, hg⟩
        have HI := hid (show After w1 S d m y g q1 (burnL l1) (appF q1 l1 F1 nm X) q2 (burnL l2) (appF q2 l2 F2 nm X) w7 from
          ⟨S', g', (HT4.out.ext HE6.out).snd hR hS hg, (HS4.out.trans (BStep.of_ext HE6.out HT4.out.disk.fresh) (.inl rfl)).trans (BStep.of_ref hS) (.inl rfl), hg.imp id fun h => by have := HE6.out.size; have := HS4.out.size; omega⟩)
        clear hR hS hg
        go_wp2
        go_ret
        exact ⟨by rw [eE1.out, eE2.out]; rfl, by rw [eL1.out, eL2.out, eF1.out, eF2.out]; exact HI.out.from_ HE.out H.out.disk.fresh⟩
      · rintro v W6 om hom hE ⟨-, e1, -, e3, -, -, e6, -⟩ hold
        have e1 := (show v 1 = _ from e1 (by decide))
        have e3 := (show v 3 = _ from e3 (by decide))
        have e6 := (show v 6 = _ from e6 (by decide))
        obtain rfl := Option.some.inj hom
        clear hom hold
        simp only [putAll, List.take_succ_cons, List.take_zero, List.drop_succ_cons, List.drop_zero, Act.put, List.setIfInBounds_toArray, List.set_cons_zero, List.set_cons_succ, Nat.zero_add, Nat.reduceAdd]
        (try simp only [List.cons_append, List.nil_append, List.take_zero, List.take_succ_cons, List.drop_zero, List.drop_succ_cons])
        rw [e1, e3, e6, Htm.out]
        clear e1 e3 e6
        have HE6 := hid hE
        clear hE
        go_wp2_with fail
        refine (append_ref (HT4.out.ref.ext HE6.out) nm hnm A j c X Ht.out (by omega) (RS.kept (d := d) (m := m) HA4.out (Kept2.of_ext HE6.out) HT4.out.disk.own HT4.out.disk.ownM)).mono ?_
        rintro e w7 ⟨rfl, S', g', hR, hS, hg⟩
        have HI := hid (show After w1 S d m y g q1 (burnL l1) (appF q1 l1 F1 nm X) q2 (burnL l2) (appF q2 l2 F2 nm X) w7 from
          ⟨S', g', (HT4.out.ext HE6.out).snd hR hS hg, (HS4.out.trans (BStep.of_ext HE6.out HT4.out.disk.fresh) (.inl rfl)).trans (BStep.of_ref hS) (.inl rfl), hg.imp id fun h => by have := HE6.out.size; have := HS4.out.size; omega⟩)
        clear hR hS hg
        go_wp2
        go_ret
        exact ⟨by rw [eE1.out, eE2.out]; rfl, by rw [eL1.out, eL2.out, eF1.out, eF2.out]; exact HI.out.from_ HE.out H.out.disk.fresh⟩
end Go.Proofs.YtpipmkaljkhgiaaDoor
