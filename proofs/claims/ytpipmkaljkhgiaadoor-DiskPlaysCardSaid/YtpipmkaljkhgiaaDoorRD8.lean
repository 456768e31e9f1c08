/- The reference's disk: Truncate. -/
import Derived.Test.YtpipmkaljkhgiaaDoorRD7
namespace Go.Proofs.YtpipmkaljkhgiaaDoor
open Go Go.RowKit
set_option linter.unusedSimpArgs false
set_option linter.unusedVariables false

set_option maxRecDepth 100000 in
set_option maxHeartbeats 4000000 in
theorem trunc_ref {w : World} {S : Nat → Prop} {y g : Nat} {q l : Int} {F : Files} (h : RefIs w S y g q l F) (nm : List UInt8) (t : Int) :
    Calls Tryd.prog 40 #[.pointer (some ⟨y, 0, none⟩), .string (str nm), .int .i64 t] w fun e w' => e = .returned (.int .i64 (truncEF l F nm t)) ∧ ∃ S' g', RefIs w' S' y g' q (burnL l) (truncF l F nm t) ∧ RStep w w' S S' y g ∧ (g' = g ∨ w.heap.size ≤ g') := by
  have H := hid h
  clear h
  go_enter Tryd.func40, Tryd.ntmps40
  go_wp2_with fail
  refine (burn_ref H.out).mono ?_
  rintro e w1 ⟨rfl, hR, hS⟩
  have H1 := hid hR; have S1 := hid hS
  clear hR hS
  by_cases h0 : l = 0
  · rw [decide_eq_true h0]
    have e3 := hid (show truncEF l F nm t = 14 by unfold truncEF; rw [if_pos h0])
    have e4 := hid (show truncF l F nm t = F by unfold truncF; rw [if_pos h0])
    go_wp2
    go_ret
    exact ⟨by rw [e3.out]; rfl, S, g, by rw [e4.out]; exact H1.out, S1.out, .inl rfl⟩
  rw [decide_eq_false h0]
  go_wp2_with fail
  refine (at_ref H1.out nm).mono ?_
  rintro e w' ⟨rfl, rfl⟩
  rcases idx_cases F nm with ⟨hat, hi⟩ | ⟨k, hk, f, hat, hi, hFk⟩
  · rw [hi]
    have e3 := hid (show truncEF l F nm t = 11 by unfold truncEF; rw [if_neg h0, hat])
    have e4 := hid (show truncF l F nm t = F by unfold truncF; rw [if_neg h0, hat])
    clear hi hat
    go_wp2
    go_ret
    exact ⟨by rw [e3.out]; rfl, S, g, by rw [e4.out]; exact H1.out, S1.out, .inl rfl⟩
  rw [hi]
  obtain ⟨n, hn⟩ : ∃ n, n = f.b.length := ⟨_, rfl⟩
  have e3' : truncEF l F nm t = if t < 0 ∨ (n : Int) < t then 1 else 0 := by unfold truncEF; rw [if_neg h0, hat, hn]
  have e4' : truncF l F nm t = if t < 0 ∨ (n : Int) < t then F else putF nm ⟨f.b.take t.toNat, min f.safe t.toNat⟩ F := by unfold truncF; rw [if_neg h0, hat, hn]
  have Hat := hid hat
  obtain ⟨A0, c0, c2, hc, hcm, hcell⟩ := H1.out.reads
  obtain ⟨gb, A1, c1, rfl, hgb, f0, f1, f2, hl1, hl2, hr⟩ := hcell k hk
  rw [hFk] at f0 f1 f2 hl1 hr
  have hok := H1.out.ok F[k] (List.getElem_mem _)
  rw [hFk] at hok
  have f1' : w1.cell? ⟨gb, k * 3 + 1, none⟩ = some (.slice A1 n c1) := by rw [hn]; exact f1
  obtain ⟨N, hN⟩ : ∃ N, N = F.length := ⟨_, rfl⟩
  rw [← hN] at c2 hc
  rw [← hn] at hl1 hok
  have hn64 : n ≤ 65536 := hok.1
  have hsf : f.safe ≤ n := hok.2
  have Hn := hid hn
  have Hr : Hid (RB w1 A1 f.b) := RK.rv hr
  have hkN : (k : Int) < (N : Int) := by omega
  have hk0 : (0 : Int) ≤ (k : Int) := by omega
  have hk00 : ¬ ((k : Int) < 0) := by omega
  have hN200 : N ≤ 200 := by have := H1.out.few; omega
  clear hi hat hFk hcell f1 hn hN hr hok
  have HEb := hid (show Ext w1 (w1.alloc (.cells #[.string (str nm), .slice A1 n c1, .int .i64 (f.safe : Int)] 75)) from (Below.refl _ _).alloc (Nat.le_refl _) _)
  have Hbx := hid (heap_alloc_last w1 (.cells #[.string (str nm), .slice A1 n c1, .int .i64 (f.safe : Int)] 75))
  by_cases hb : t < 0 ∨ (n : Int) < t
  · have e3 := hid (e3'.trans (if_pos hb))
    have e4 := hid (e4'.trans (if_pos hb))
    clear e3' e4'
    by_cases ht : t < 0
    all_goals
      have ht2 : 0 ≤ t → (n : Int) < t := by omega
      try have ht3 := ht2 (by omega)
      clear hb ht2
      go_wp2
      go_ret
      exact ⟨by rw [e3.out]; rfl, S, g, by rw [e4.out]; exact H1.out.ext HEb.out, S1.out.trans (RStep.of_ext HEb.out H1.out.fresh) (.inl rfl), .inl rfl⟩
  have E3 := hid (e3'.trans (if_neg hb))
  have E4 := hid (e4'.trans (if_neg hb))
  clear e3' e4'
  obtain ⟨j, rfl⟩ := Int.eq_ofNat_of_zero_le (show 0 ≤ t by omega)
  rw [Int.toNat_natCast] at E4
  have hj1 : ¬ ((j : Int) < 0) := by omega
  have hj2 : ¬ ((n : Int) < (j : Int)) := by omega
  have hj3 : (j : Int) ≤ (c1 : Int) := by omega
  have Hrj := hid (RB.take Hr.out j)
  have hlj : (f.b.take j).length = j := by rw [List.length_take, ← Hn.out]; omega
  have Hlj := hid hlj
  clear hb hlj
  generalize f.b.take j = X at E4 Hrj Hlj
  go_wp2_with fail
  apply wp_drawn_last 13 [isV _, isV _, emptyB w1.heap.size, isV _, isV _, isV _, isV _, ownB w1.heap.size X, isV _, isV _, isV _, isV (.int .i64 (min (f.safe : Int) (j : Int))), filP w1.heap.size nm X (min (f.safe : Int) (j : Int))] (by decide) (by kernel_rfl)
  · kernel_rfl
  · kernel_rfl
  · refine ⟨?r10s0, ?r10s1, ?r10s2, ?r10s3, ?r10s4, ?r10s5, ?r10s6, ?r10s7, ?r10s8, ?r10s9, ?r10s10, ?r10s11, ?r10s12, trivial⟩
    case r10s0 =>
      intro v W hE hd; simp only [Region.wanted, ↓reduceIte]; (try simp [deps, waitsOn, Region.binds, knowing, isV, ownsV, anyV] at hd); simp only [putAll, List.take_succ_cons, List.take_zero, List.drop_succ_cons, List.drop_zero, Act.put, List.setIfInBounds_toArray, List.set_cons_zero, List.set_cons_succ, Nat.zero_add, Nat.reduceAdd]; go_simp; exact ⟨Below.refl _ _, rfl⟩
    case r10s1 =>
      intro v W hE hd; simp only [Region.wanted, ↓reduceIte]; (try simp [deps, waitsOn, Region.binds, knowing, isV, ownsV, anyV] at hd); simp only [putAll, List.take_succ_cons, List.take_zero, List.drop_succ_cons, List.drop_zero, Act.put, List.setIfInBounds_toArray, List.set_cons_zero, List.set_cons_succ, Nat.zero_add, Nat.reduceAdd]; go_simp; exact ⟨Below.refl _ _, rfl⟩
    case r10s2 =>
      intro v W hE hd; simp only [Region.wanted, ↓reduceIte]; (try simp [deps, waitsOn, Region.binds, knowing, isV, ownsV, anyV] at hd); simp only [putAll, List.take_succ_cons, List.take_zero, List.drop_succ_cons, List.drop_zero, Act.put, List.setIfInBounds_toArray, List.set_cons_zero, List.set_cons_succ, Nat.zero_add, Nat.reduceAdd]
      go_simp
      have hz := hE.size
      have hz1 : w1.heap.size + 1 ≤ W.heap.size := by simpa using hz
      exact ⟨(Below.refl _ _).alloc (Nat.le_refl _) _, _, rfl, OB_empty W _ (by omega), by simp; omega⟩
    case r10s3 =>
      intro v W hE hd; simp only [Region.wanted, ↓reduceIte]; (try simp [deps, waitsOn, Region.binds, knowing, isV, ownsV, anyV] at hd); simp only [putAll, List.take_succ_cons, List.take_zero, List.drop_succ_cons, List.drop_zero, Act.put, List.setIfInBounds_toArray, List.set_cons_zero, List.set_cons_succ, Nat.zero_add, Nat.reduceAdd]; go_simp; exact ⟨Below.refl _ _, rfl⟩
    case r10s4 =>
      intro v W hE hd; simp only [Region.wanted, ↓reduceIte]; (try simp [deps, waitsOn, Region.binds, knowing, isV, ownsV, anyV] at hd); simp only [putAll, List.take_succ_cons, List.take_zero, List.drop_succ_cons, List.drop_zero, Act.put, List.setIfInBounds_toArray, List.set_cons_zero, List.set_cons_succ, Nat.zero_add, Nat.reduceAdd]
      have hbk := (hE.block w1.heap.size (by simp)).trans Hbx.out
      have e1 : W.cell? ⟨w1.heap.size, 1, none⟩ = some (.slice A1 n c1) := by rw [cell_of_row _ _ _ _ _ _ hbk]; rfl
      clear hbk
      go_simp
      exact ⟨Below.refl _ _, rfl⟩
    case r10s5 =>
      intro v W hE hd; simp only [Region.wanted, ↓reduceIte]; (try simp [deps, waitsOn, Region.binds, knowing, isV, ownsV, anyV] at hd); simp only [putAll, List.take_succ_cons, List.take_zero, List.drop_succ_cons, List.drop_zero, Act.put, List.setIfInBounds_toArray, List.set_cons_zero, List.set_cons_succ, Nat.zero_add, Nat.reduceAdd]; go_simp; exact ⟨Below.refl _ _, rfl⟩
    case r10s6 =>
      intro v W hE hd; simp only [Region.wanted, ↓reduceIte]; (try simp [deps, waitsOn, Region.binds, knowing, isV, ownsV, anyV] at hd); simp only [putAll, List.take_succ_cons, List.take_zero, List.drop_succ_cons, List.drop_zero, Act.put, List.setIfInBounds_toArray, List.set_cons_zero, List.set_cons_succ, Nat.zero_add, Nat.reduceAdd]; go_simp; exact ⟨Below.refl _ _, rfl⟩
    case r10s7 =>
      intro v W hE hd; simp only [Region.wanted, ↓reduceIte]; (try simp [deps, waitsOn, Region.binds, knowing, isV, ownsV, anyV] at hd); simp only [putAll, List.take_succ_cons, List.take_zero, List.drop_succ_cons, List.drop_zero, Act.put, List.setIfInBounds_toArray, List.set_cons_zero, List.set_cons_succ, Nat.zero_add, Nat.reduceAdd]
      obtain ⟨⟨ge, e1, h1, h2⟩, e4⟩ := hd
      rw [e1] at h1
      obtain ⟨v', w', hrun, hO', hE'⟩ := run_app_empty h1 h2 Hlj.out.symm (RB.below Hrj.out (Ext.trans' HEb.out hE)) (by omega)
      refine step_app (.tmp 36) (.tmp 40) rfl e1 e4 hrun ?_
      exact ⟨_, rfl, hE', hO', Nat.le_trans h2 hE'.size⟩
    case r10s8 =>
      intro v W hE hd; simp only [Region.wanted, ↓reduceIte]; (try simp [deps, waitsOn, Region.binds, knowing, isV, ownsV, anyV] at hd); simp only [putAll, List.take_succ_cons, List.take_zero, List.drop_succ_cons, List.drop_zero, Act.put, List.setIfInBounds_toArray, List.set_cons_zero, List.set_cons_succ, Nat.zero_add, Nat.reduceAdd]; go_simp; exact ⟨Below.refl _ _, rfl⟩
    case r10s9 =>
      intro v W hE hd; simp only [Region.wanted, ↓reduceIte]; (try simp [deps, waitsOn, Region.binds, knowing, isV, ownsV, anyV] at hd); simp only [putAll, List.take_succ_cons, List.take_zero, List.drop_succ_cons, List.drop_zero, Act.put, List.setIfInBounds_toArray, List.set_cons_zero, List.set_cons_succ, Nat.zero_add, Nat.reduceAdd]
      have hbk := (hE.block w1.heap.size (by simp)).trans Hbx.out
      have e1 : W.cell? ⟨w1.heap.size, 2, none⟩ = some (.int .i64 (f.safe : Int)) := by rw [cell_of_row _ _ _ _ _ _ hbk]; rfl
      clear hbk
      go_simp
      exact ⟨Below.refl _ _, rfl⟩
    case r10s10 =>
      intro v W hE hd; simp only [Region.wanted, ↓reduceIte]; (try simp [deps, waitsOn, Region.binds, knowing, isV, ownsV, anyV] at hd); simp only [putAll, List.take_succ_cons, List.take_zero, List.drop_succ_cons, List.drop_zero, Act.put, List.setIfInBounds_toArray, List.set_cons_zero, List.set_cons_succ, Nat.zero_add, Nat.reduceAdd]; go_simp; exact ⟨Below.refl _ _, rfl⟩
    case r10s11 =>
      intro v W hE hd; simp only [Region.wanted, ↓reduceIte]; (try simp [deps, waitsOn, Region.binds, knowing, isV, ownsV, anyV] at hd); simp only [putAll, List.take_succ_cons, List.take_zero, List.drop_succ_cons, List.drop_zero, Act.put, List.setIfInBounds_toArray, List.set_cons_zero, List.set_cons_succ, Nat.zero_add, Nat.reduceAdd]
      go_simp
      exact ⟨Below.refl _ _, by simp [knowing, isV]⟩
    case r10s12 =>
      intro v W hE hd; simp only [Region.wanted, ↓reduceIte]; (try simp [deps, waitsOn, Region.binds, knowing, isV, ownsV, anyV] at hd); simp only [putAll, List.take_succ_cons, List.take_zero, List.drop_succ_cons, List.drop_zero, Act.put, List.setIfInBounds_toArray, List.set_cons_zero, List.set_cons_succ, Nat.zero_add, Nat.reduceAdd]
      obtain ⟨e1, ⟨h7, h72⟩, e9⟩ := hd
      obtain ⟨A9, c9, e7, -, -⟩ := OB.read h7
      rw [e7] at h7
      rw [Hlj.out] at e7 h7
      have H7 := hid h7; clear h7
      go_simp
      exact ⟨Below.refl _ _, _, rfl, H7.out, h72⟩
  · rintro v W6 hE ⟨e0, -, -, -, -, -, -, -, -, -, -, -, e12, -⟩
    have e0 := (show v 0 = _ from e0)
    have e12 := (show _ from e12)
    simp only [putAll, List.take_succ_cons, List.take_zero, List.drop_succ_cons, List.drop_zero, Act.put, List.setIfInBounds_toArray, List.set_cons_zero, List.set_cons_succ, Nat.zero_add, Nat.reduceAdd]
    obtain ⟨x, e12, hO, hsz⟩ := e12
    obtain ⟨Ax, cx, ex, hrel⟩ := own_file (S := S) (nm := nm) (sf := min f.safe j) hO H1.out.fresh
    rw [Hlj.out] at ex hrel
    subst ex
    obtain ⟨z, hz⟩ : ∃ z, z = ((min f.safe j : Nat) : Int) := ⟨_, rfl⟩
    rw [show min (f.safe : Int) (j : Int) = z by rw [hz]; omega] at e12
    rw [← hz] at hrel
    have Hz := hid hz
    clear hz
    rw [e0, e12]
    have HE6 := hid (Ext.trans' HEb.out hE)
    have Hrel := hid hrel
    clear e0 e12 hO hE hrel
    go_wp2_with fail
    refine (put_ref' (H1.out.ext HE6.out) nm X (min f.safe j) Ax j cx z Hlj.out.symm Hz.out Hrel.out (by have := Hlj.out; omega) (.inr ⟨_, Hat.out⟩)).mono ?_
    rintro e w7 ⟨rfl, S', g', hR, hS, hg⟩
    have HR := hid hR; have HS := hid hS; have hg6 := hid hg
    clear hR hS hg
    go_wp2
    go_ret
    have hsz6 := HE6.out.size
    have hsz1 := S1.out.kept.size
    exact ⟨by rw [E3.out]; rfl, S', g', by rw [E4.out]; exact HR.out, (S1.out.trans (RStep.of_ext HE6.out H1.out.fresh) (.inl rfl)).trans HS.out (.inl rfl), hg6.out.imp id fun h => by omega⟩
end Go.Proofs.YtpipmkaljkhgiaaDoor
