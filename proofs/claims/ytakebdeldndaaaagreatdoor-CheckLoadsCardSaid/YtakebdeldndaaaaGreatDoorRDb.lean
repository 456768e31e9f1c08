/- Several texts of this claim's, one behind the other. -/
import Derived.Test.YtakebdeldndaaaaGreatDoorRDa
import Derived.Test.YtakebdeldndaaaaGreatDoorFound
/- The reference's disk: Append. -/
namespace Go.Proofs.YtakebdeldndaaaaGreatDoor
open Go Go.RowKit
set_option linter.unusedSimpArgs false
set_option linter.unusedVariables false
def emptyB (base : Nat) : SPred := ⟨fun v w => ∃ g, v = .slice (some ⟨g, 0, none⟩) 0 0 ∧ OB w base v [] ∧ base ≤ w.heap.size, fun _ _ _ ⟨g, e, h1, h2⟩ hE => ⟨g, e, h1.below hE, Nat.le_trans h2 hE.size⟩⟩
def ownB (base : Nat) (bs : List UInt8) : SPred := ⟨fun v w => OB w base v bs ∧ base ≤ w.heap.size, fun _ _ _ h hE => ⟨h.1.below hE, Nat.le_trans h.2 hE.size⟩⟩
theorem bvs_rows {w : World} {K : Nat → Prop} {A : Option Addr} {bs : List UInt8} (h : RB w A bs) : ∃ cs, Rows Rep.u8 w K bs cs ∧ RV w A cs := ⟨bvs bs, rows_u8 bs, h⟩
theorem OB.toK {w : World} {base : Nat} {v : Value} {bs : List UInt8} (h : OB w base v bs) : OwnK Rep.u8 5 (fun _ => False) w base v bs := ⟨bvs bs, h, rows_u8 bs⟩
theorem OB.ofK {w : World} {base : Nat} {v : Value} {bs : List UInt8} (h : OwnK Rep.u8 5 (fun _ => False) w base v bs) : OB w base v bs := by
  obtain ⟨cs, ho, hr⟩ := h
  rw [rows_u8_eq hr] at ho
  exact ho
theorem run_app_empty {w : World} {base g : Nat} (hO : OB w base (.slice (some ⟨g, 0, none⟩) 0 0) []) (hb : base ≤ w.heap.size) {A : Option Addr} {n c : Nat} {bs : List UInt8} (hn : n = bs.length) (hr : RB w A bs) (hm : n ≤ 1000000) :
    ∃ v' w', (Builtin.append_ #[23, 23] 23 #[.slice (some ⟨g, 0, none⟩) 0 0, .slice A n c]).run Tryz.prog w = .ok v' w' ∧ OB w' base v' bs ∧ Ext w w' := by
  obtain ⟨v', w', h1, h2, h3⟩ := run_app_fullK (P := Tryz.prog) (R := Rep.u8) u8info 23 g 0 rfl hO.toK hb (fun _ h => h.elim) A c n bs hn (bvs_rows hr) (by omega) (by omega)
  exact ⟨v', w', h1, OB.ofK h2, h3⟩
theorem run_appB {w w0 : World} {base : Nat} {v : Value} {xs : List UInt8} (hO : OB w base v xs) (hB : Below base w0 w) (hb : base ≤ w.heap.size) {A : Option Addr} {n c : Nat} {bs : List UInt8} (hn : n = bs.length) (hr : RB w A bs) (hm : xs.length + n ≤ 1000000) :
    ∃ v' w', (Builtin.append_ #[23, 23] 23 #[v, .slice A n c]).run Tryz.prog w = .ok v' w' ∧ OB w' base v' (xs ++ bs) ∧ Below base w0 w' := by
  obtain ⟨v', w', h1, h2, h3, -⟩ := run_appK (P := Tryz.prog) (R := Rep.u8) u8info 23 hO.toK hb (fun _ h => h.elim) A c n bs hn (bvs_rows hr) (by omega) (by omega)
  refine ⟨v', w', h1, OB.ofK h2, hB.grown h3 hb fun k hk => own_base hO k hk⟩
theorem put_ref' {w : World} {S : Nat → Prop} {y g : Nat} {q l : Int} {F : Files} (h : RefIs w S y g q l F) (nm b : List UInt8) (sf : Nat) (A : Option Addr) (L c : Nat) (z : Int) (hL : L = b.length) (hz : z = (sf : Int)) (hrel : RFile.rel w (Imm w S) (nm, ⟨b, sf⟩) [strV nm, .slice A L c, .int .i64 z])
    (hok : b.length ≤ 65536 ∧ sf ≤ b.length) (hfew : F.length < 200 ∨ ∃ f0, atF F nm = some f0) :
    Calls Tryz.prog 42 #[.pointer (some ⟨y, 0, none⟩), .agg #[.string (str nm), .slice A L c, .int .i64 z]] w fun e w' => e = .returned (.tuple #[]) ∧ ∃ S' g', RefIs w' S' y g' q l (putF nm ⟨b, sf⟩ F) ∧ RStep w w' S S' y g ∧ (g' = g ∨ w.heap.size ≤ g') := by
  subst hL; subst hz
  exact put_ref h (nm, ⟨b, sf⟩) A c hrel hok hfew
theorem own_file {w w0 : World} {S : Nat → Prop} {v : Value} {nm bs : List UInt8} {sf : Nat} (h : OB w w0.heap.size v bs) (hS : ∀ k, w0.heap.size ≤ k → ¬ S k) :
    ∃ A c, v = .slice A bs.length c ∧ RFile.rel w (Imm w S) (nm, ⟨bs, sf⟩) [strV nm, .slice A bs.length c, .int .i64 (sf : Int)] := by
  obtain ⟨A, c, e, hc, hr⟩ := OB.read h
  have hm : c ≤ 9223372036854775807 := by
    rcases h.2 with ⟨h1, h2⟩ | ⟨g, cap, cur, h1, _, _, _, hm, _⟩
    · rw [h1] at e; simp only [Value.slice.injEq] at e; omega
    · rw [h1] at e; simp only [Value.slice.injEq] at e; simp only [maxLen] at hm; omega
  refine ⟨A, c, e, rfile_mk (p := (nm, ⟨bs, sf⟩)) hc hm (RK.of_rv hr fun b o e' hlt => ⟨hlt, hS b ?_⟩)⟩
  rw [e] at h
  exact own_base h b (by rw [e']; rfl)
def filP (base : Nat) (nm bs : List UInt8) (sf : Int) : SPred := ⟨fun v w => ∃ x, v = .agg #[.string (str nm), x, .int .i64 sf] ∧ OB w base x bs ∧ base ≤ w.heap.size, fun _ _ _ ⟨x, h1, h2, h3⟩ hE => ⟨x, h1, h2.below hE, Nat.le_trans h3 hE.size⟩⟩
theorem old_are (F : Files) (nm : List UInt8) : (idxI F nm = -1 ∧ atF F nm = none ∧ oldF F nm = ⟨[], 0⟩) ∨ ∃ (k : Nat) (hk : k < F.length), idxI F nm = (k : Int) ∧ F[k]'hk = (nm, oldF F nm) ∧ atF F nm = some (oldF F nm) := by
  rcases idx_cases F nm with ⟨h1, h2⟩ | ⟨k, hk, f, h1, h2, h3⟩
  · exact .inl ⟨h2, h1, by unfold oldF; rw [h1]; rfl⟩
  · exact .inr ⟨k, hk, h2, by rw [h3]; unfold oldF; rw [h1]; rfl, by unfold oldF; rw [h1]; rfl⟩
set_option maxRecDepth 100000 in
set_option maxHeartbeats 4000000 in
theorem append_ref {w : World} {S : Nat → Prop} {y g : Nat} {q l : Int} {F : Files} (h : RefIs w S y g q l F) (nm : List UInt8) (hn : nm.length ≤ 9223372036854775807) (A : Option Addr) (n c : Nat) (bs : List UInt8) (hnb : n = bs.length) (hn1 : n ≤ 100000) (hA : RS w S A bs) :
    Calls Tryz.prog 13 #[.pointer (some ⟨y, 0, none⟩), .string (str nm), .slice A n c] w fun e w' => e = .returned (.int .i64 (appE q l F nm bs)) ∧ ∃ S' g', RefIs w' S' y g' q (burnL l) (appF q l F nm bs) ∧ RStep w w' S S' y g ∧ (g' = g ∨ w.heap.size ≤ g') := by
  have H := hid h
  have Hn := hid hnb
  have HA := hid hA
  clear h hnb hA
  go_enter Tryz.func13, Tryz.ntmps13
  go_wp2_with fail
  refine (burn_ref H.out).mono ?_
  rintro e w1 ⟨rfl, hR, hS⟩
  have H1 := hid hR; have S1 := hid hS
  have HA1 := hid (RS.kept HA.out hS.kept H.out.own H.out.ownG)
  clear hR hS HA
  by_cases h0 : l = 0
  · rw [decide_eq_true h0]
    have e3 := hid (show appE q l F nm bs = 14 by unfold appE; rw [if_pos h0])
    have e4 := hid (show appF q l F nm bs = F by unfold appF; rw [e3.out]; rfl)
    go_wp2
    go_ret
    exact ⟨by rw [e3.out]; rfl, S, g, by rw [e4.out]; exact H1.out, S1.out, .inl rfl⟩
  rw [decide_eq_false h0]
  go_wp2_with fail
  refine (refMay_at nm _ hn).mono ?_
  rintro e w' ⟨rfl, rfl⟩
  cases hmay : mayB nm
  · have e3 := hid (show appE q l F nm bs = 5 by unfold appE; rw [if_neg h0, if_pos hmay])
    have e4 := hid (show appF q l F nm bs = F by unfold appF; rw [e3.out]; rfl)
    clear hmay
    go_wp2
    go_ret
    exact ⟨by rw [e3.out]; rfl, S, g, by rw [e4.out]; exact H1.out, S1.out, .inl rfl⟩
  have Hmay := hid hmay; clear hmay
  go_wp2_with fail
  refine (at_ref H1.out nm).mono ?_
  rintro e w' ⟨rfl, rfl⟩
  obtain ⟨A0, c0, c2, hc, hcm, hcell⟩ := H1.out.reads
  have hfew := H1.out.few
  have Hok := hid H1.out.ok
  obtain ⟨N, hN⟩ : ∃ N, N = F.length := ⟨_, rfl⟩
  rw [← hN] at c2 hfew hc
  have HN := hid hN
  have hylt := H1.out.lt
  obtain ⟨b0, hb0⟩ : ∃ b0, b0 = (oldF F nm).b := ⟨_, rfl⟩
  obtain ⟨sf, hsf⟩ : ∃ sf, sf = (oldF F nm).safe := ⟨_, rfl⟩
  have Hold := hid (show oldF F nm = ⟨b0, sf⟩ by rw [hb0, hsf])
  clear hb0 hsf hN
  rcases old_are F nm with ⟨hi, hat, ho⟩ | ⟨k, hk, hi, hFk, hat⟩
  · rw [hi]
    have hbs0 : b0 = [] ∧ sf = 0 := by rw [Hold.out] at ho; simp only [File.mk.injEq] at ho; exact ho
    obtain ⟨hb0, rfl⟩ := hbs0
    have Hat := hid hat
    have Hr0 : Hid (RB w1 none b0) := by rw [hb0]; exact .inl rfl
    have hn0 : Hid (0 = b0.length) := by rw [hb0]; rfl
    clear hb0
    clear hi hat ho hcell
    by_cases hbig : 65536 < 0 + n ∨ 200 ≤ N
    · have e3 := hid (show appE q l F nm bs = 3 by unfold appE; rw [if_neg h0, if_neg (by rw [Hmay.out]; decide), Hold.out]; exact if_pos (by rw [← Hn.out]; show 65536 < List.length b0 + n ∨ _; rw [← hn0.out]; exact hbig.imp id fun h => (by first | exact ⟨Hat.out, by rw [← HN.out]; exact h⟩ | exact h.elim)))
      have e4 := hid (show appF q l F nm bs = F by unfold appF; rw [e3.out]; rfl)
      by_cases hb1 : (65536 : Int) < ((0 : Nat) : Int) + (n : Int)
      · clear hbig
        go_wp2
        go_ret
        exact ⟨by rw [e3.out]; rfl, S, g, by rw [e4.out]; exact H1.out.ext (by first | exact Below.refl _ _ | exact (Below.refl _ _).alloc (Nat.le_refl _) _ | exact ((Below.refl _ _).alloc (Nat.le_refl _) _).alloc (by simp) _), S1.out.trans (RStep.of_ext (by first | exact Below.refl _ _ | exact (Below.refl _ _).alloc (Nat.le_refl _) _ | exact ((Below.refl _ _).alloc (Nat.le_refl _) _).alloc (by simp) _) H1.out.fresh) (.inl rfl), .inl rfl⟩
      · first
        | (exfalso; rcases hbig with hbig | hbig; (· omega); (· exact hbig))
        | (have hs1 : (200 : Int) ≤ (N : Int) := by omega
           clear hbig
           go_wp2
           go_ret
           exact ⟨by rw [e3.out]; rfl, S, g, by rw [e4.out]; exact H1.out.ext (by first | exact Below.refl _ _ | exact (Below.refl _ _).alloc (Nat.le_refl _) _ | exact ((Below.refl _ _).alloc (Nat.le_refl _) _).alloc (by simp) _), S1.out.trans (RStep.of_ext (by first | exact Below.refl _ _ | exact (Below.refl _ _).alloc (Nat.le_refl _) _ | exact ((Below.refl _ _).alloc (Nat.le_refl _) _).alloc (by simp) _) H1.out.fresh) (.inl rfl), .inl rfl⟩)
    have hlc : Hid (0 + n ≤ 65536) := by unfold Hid; omega
    have hb1 : ¬ ((65536 : Int) < ((0 : Nat) : Int) + (n : Int)) := by omega
    have hb2 : ¬ ((200 : Int) ≤ (N : Int)) := by first | trivial | omega
    have hsf : 0 ≤ 0 := by first | exact hok.2 | omega
    have huu := usedF_ok Hok.out
    clear hbig
    have HEb := hid (show Ext w1 (w1.alloc (.cells #[.string (str nm), .slice none 0 0, .int .i64 ((0 : Nat) : Int)] 88)) from (Below.refl _ _).alloc (Nat.le_refl _) _)
    have Hbx := hid (heap_alloc_last w1 (.cells #[.string (str nm), .slice none 0 0, .int .i64 ((0 : Nat) : Int)] 88))
    go_wp2_with fail
    apply wp_drawn [isV _, isV _, isV _, isV _, isV _, isV _, isV _, isV _, isV _, isV _] (by kernel_rfl)
    · kernel_rfl
    · refine ⟨?ups0, ?ups1, ?ups2, ?ups3, ?ups4, ?ups5, ?ups6, ?ups7, ?ups8, ?ups9, trivial⟩
      case ups0 =>
        intro v W hE hd; simp only [Region.wanted, ↓reduceIte]; (try simp [deps, waitsOn, Region.binds, knowing, isV, ownsV, anyV] at hd); simp only [putAll, List.take_succ_cons, List.take_zero, List.drop_succ_cons, List.drop_zero, Act.put, List.setIfInBounds_toArray, List.set_cons_zero, List.set_cons_succ, Nat.zero_add, Nat.reduceAdd]; go_simp; exact ⟨Below.refl _ _, rfl⟩
      case ups1 =>
        intro v W hE hd; simp only [Region.wanted, ↓reduceIte]; (try simp [deps, waitsOn, Region.binds, knowing, isV, ownsV, anyV] at hd); simp only [putAll, List.take_succ_cons, List.take_zero, List.drop_succ_cons, List.drop_zero, Act.put, List.setIfInBounds_toArray, List.set_cons_zero, List.set_cons_succ, Nat.zero_add, Nat.reduceAdd]
        go_simp
        refine (used_ref ((H1.out.ext HEb.out).ext hE)).mono ?_
        rintro e w' ⟨rfl, rfl⟩
        go_simp
        exact ⟨Below.refl _ _, rfl⟩
      case ups2 | ups3 =>
        intro v W hE hd; simp only [Region.wanted, ↓reduceIte]; (try simp [deps, waitsOn, Region.binds, knowing, isV, ownsV, anyV] at hd); simp only [putAll, List.take_succ_cons, List.take_zero, List.drop_succ_cons, List.drop_zero, Act.put, List.setIfInBounds_toArray, List.set_cons_zero, List.set_cons_succ, Nat.zero_add, Nat.reduceAdd]; go_simp; exact ⟨Below.refl _ _, rfl⟩
      case ups4 =>
        intro v W hE hd; simp only [Region.wanted, ↓reduceIte]; (try simp [deps, waitsOn, Region.binds, knowing, isV, ownsV, anyV] at hd); simp only [putAll, List.take_succ_cons, List.take_zero, List.drop_succ_cons, List.drop_zero, Act.put, List.setIfInBounds_toArray, List.set_cons_zero, List.set_cons_succ, Nat.zero_add, Nat.reduceAdd]
        have e1 := hid (show IntKind.i64.wrap ((usedF F : Int) + (n : Int)) = (usedF F : Int) + (n : Int) by rw [IntKind.wrap_i64]; have := HN.out; omega)
        go_simp
        rw [e1.out]
        exact ⟨Below.refl _ _, rfl⟩
      case ups5 | ups6 | ups7 =>
        intro v W hE hd; simp only [Region.wanted, ↓reduceIte]; (try simp [deps, waitsOn, Region.binds, knowing, isV, ownsV, anyV] at hd); simp only [putAll, List.take_succ_cons, List.take_zero, List.drop_succ_cons, List.drop_zero, Act.put, List.setIfInBounds_toArray, List.set_cons_zero, List.set_cons_succ, Nat.zero_add, Nat.reduceAdd]; go_simp; exact ⟨Below.refl _ _, rfl⟩
      case ups8 =>
        intro v W hE hd; simp only [Region.wanted, ↓reduceIte]; (try simp [deps, waitsOn, Region.binds, knowing, isV, ownsV, anyV] at hd); simp only [putAll, List.take_succ_cons, List.take_zero, List.drop_succ_cons, List.drop_zero, Act.put, List.setIfInBounds_toArray, List.set_cons_zero, List.set_cons_succ, Nat.zero_add, Nat.reduceAdd]
        have e1 := cell_below (Ext.trans' HEb.out hE) H1.out.quota
        go_simp
        exact ⟨Below.refl _ _, rfl⟩
      case ups9 =>
        intro v W hE hd; simp only [Region.wanted, ↓reduceIte]; (try simp [deps, waitsOn, Region.binds, knowing, isV, ownsV, anyV] at hd); simp only [putAll, List.take_succ_cons, List.take_zero, List.drop_succ_cons, List.drop_zero, Act.put, List.setIfInBounds_toArray, List.set_cons_zero, List.set_cons_succ, Nat.zero_add, Nat.reduceAdd]; go_simp; exact ⟨Below.refl _ _, rfl⟩
    · rintro v W5 hE ⟨-, -, -, -, -, -, -, -, -, e9, -⟩
      have e9 := (show v 9 = _ from e9)
      simp only [putAll, List.take_succ_cons, List.take_zero, List.drop_succ_cons, List.drop_zero, Act.put, List.setIfInBounds_toArray, List.set_cons_zero, List.set_cons_succ, Nat.zero_add, Nat.reduceAdd]
      rw [e9]
      have HE5 := hid (Ext.trans' HEb.out hE)
      have hbk := (hE.block w1.heap.size (by simp)).trans Hbx.out
      have Hf1 := hid (show W5.cell? ⟨w1.heap.size, 1, none⟩ = some (.slice none 0 0) by rw [cell_of_row _ _ _ _ _ _ hbk]; rfl)
      have Hf2 := hid (show W5.cell? ⟨w1.heap.size, 2, none⟩ = some (.int .i64 ((0 : Nat) : Int)) by rw [cell_of_row _ _ _ _ _ _ hbk]; rfl)
      clear hE e9 hbk
      by_cases hsp : q < (usedF F : Int) + (n : Int)
      · rw [decide_eq_true hsp]
        have e3 := hid (show appE q l F nm bs = 10 by unfold appE; rw [if_neg h0, if_neg (by rw [Hmay.out]; decide), if_neg (by rw [Hold.out, ← Hn.out]; show ¬ (65536 < List.length b0 + n ∨ _); rw [← hn0.out]; have := hlc.out; have := HN.out; rintro (h | h) <;> first | omega | (rw [Hat.out] at h; exact absurd h.1 (by simp))), if_pos (by rw [← Hn.out]; exact hsp)])
        have e4 := hid (show appF q l F nm bs = F by unfold appF; rw [e3.out]; rfl)
        clear hsp
        go_wp2
        go_ret
        exact ⟨by rw [e3.out]; rfl, S, g, by rw [e4.out]; exact H1.out.ext HE5.out, S1.out.trans (RStep.of_ext HE5.out H1.out.fresh) (.inl rfl), .inl rfl⟩
      rw [decide_eq_false hsp]
      have E3 := hid (show appE q l F nm bs = 0 by unfold appE; rw [if_neg h0, if_neg (by rw [Hmay.out]; decide), if_neg (by rw [Hold.out, ← Hn.out]; show ¬ (65536 < List.length b0 + n ∨ _); rw [← hn0.out]; have := hlc.out; have := HN.out; rintro (h | h) <;> first | omega | (rw [Hat.out] at h; exact absurd h.1 (by simp))), if_neg (by rw [← Hn.out]; exact hsp)])
      have E4 := hid (show appF q l F nm bs = putF nm ⟨b0 ++ bs, 0⟩ F by unfold appF; rw [E3.out, Hold.out]; rfl)
      have Hr05 := hid (Hr0.out.below HE5.out)
      have HA5 := hid (RB.below (RK.rv HA1.out) HE5.out)
      clear hsp
      go_wp2_with fail
      apply wp_drawn_w 11 7 [0, 0, 1, 0, 0, 1, 0, 2, 0, 0, 2] [isV _, isV _, emptyB W5.heap.size, isV _, isV _, ownB W5.heap.size b0, isV _, ownB W5.heap.size (b0 ++ bs), isV _, isV _, filP W5.heap.size nm (b0 ++ bs) ((0 : Nat) : Int)] (by decide) (by decide) (by kernel_rfl)
      · kernel_rfl
      · kernel_rfl
      · kernel_rfl
      · refine ⟨?pps0, ?pps1, ?pps2, ?pps3, ?pps4, ?pps5, ?pps6, ?pps7, ?pps8, ?pps9, ?pps10, trivial⟩
        case pps0 | pps1 =>
          intro v W hE hd; simp only [Region.wanted, ↓reduceIte]; (try simp [deps, waitsOn, Region.binds, knowing, isV, ownsV, anyV] at hd); simp only [putAll, List.take_succ_cons, List.take_zero, List.drop_succ_cons, List.drop_zero, Act.put, List.setIfInBounds_toArray, List.set_cons_zero, List.set_cons_succ, Nat.zero_add, Nat.reduceAdd]; go_simp; exact ⟨Below.refl _ _, rfl⟩
        case pps2 =>
          intro v W hE hd; simp only [Region.wanted, ↓reduceIte]; (try simp [deps, waitsOn, Region.binds, knowing, isV, ownsV, anyV] at hd); simp only [putAll, List.take_succ_cons, List.take_zero, List.drop_succ_cons, List.drop_zero, Act.put, List.setIfInBounds_toArray, List.set_cons_zero, List.set_cons_succ, Nat.zero_add, Nat.reduceAdd]
          go_simp
          exact ⟨(Below.refl _ _).alloc (Nat.le_refl _) _, _, rfl, OB_empty W _ hE.size, by have := hE.size; simp; omega⟩
        case pps3 =>
          intro v W hE hd; simp only [Region.wanted, ↓reduceIte]; (try simp [deps, waitsOn, Region.binds, knowing, isV, ownsV, anyV] at hd); simp only [putAll, List.take_succ_cons, List.take_zero, List.drop_succ_cons, List.drop_zero, Act.put, List.setIfInBounds_toArray, List.set_cons_zero, List.set_cons_succ, Nat.zero_add, Nat.reduceAdd]; go_simp; exact ⟨Below.refl _ _, rfl⟩
        case pps4 =>
          intro v W hE hd; simp only [Region.wanted, ↓reduceIte]; (try simp [deps, waitsOn, Region.binds, knowing, isV, ownsV, anyV] at hd); simp only [putAll, List.take_succ_cons, List.take_zero, List.drop_succ_cons, List.drop_zero, Act.put, List.setIfInBounds_toArray, List.set_cons_zero, List.set_cons_succ, Nat.zero_add, Nat.reduceAdd]
          have e1 := cell_below hE Hf1.out
          go_simp
          exact ⟨Below.refl _ _, rfl⟩
        case pps5 =>
          intro v W hE hd; simp only [Region.wanted, ↓reduceIte]; (try simp [deps, waitsOn, Region.binds, knowing, isV, ownsV, anyV] at hd); simp only [putAll, List.take_succ_cons, List.take_zero, List.drop_succ_cons, List.drop_zero, Act.put, List.setIfInBounds_toArray, List.set_cons_zero, List.set_cons_succ, Nat.zero_add, Nat.reduceAdd]
          obtain ⟨⟨ge, e1, h1, h2⟩, e4⟩ := hd
          rw [e1] at h1
          obtain ⟨v', w', hrun, hO', hE'⟩ := run_app_empty h1 h2 hn0.out (Hr05.out.below hE) (by have := hlc.out; omega)
          refine step_app (.tmp 63) (.tmp 65) rfl e1 e4 hrun ?_
          exact ⟨_, rfl, hE', hO', Nat.le_trans h2 hE'.size⟩
        case pps6 =>
          intro v W hE hd; simp only [Region.wanted, ↓reduceIte]; (try simp [deps, waitsOn, Region.binds, knowing, isV, ownsV, anyV] at hd); simp only [putAll, List.take_succ_cons, List.take_zero, List.drop_succ_cons, List.drop_zero, Act.put, List.setIfInBounds_toArray, List.set_cons_zero, List.set_cons_succ, Nat.zero_add, Nat.reduceAdd]; go_simp; exact ⟨Below.refl _ _, rfl⟩
        case pps7 =>
          intro v W hE hd; simp only [Region.wanted, ↓reduceIte]; (try simp [deps, waitsOn, Region.binds, knowing, isV, ownsV, anyV] at hd); simp only [putAll, List.take_succ_cons, List.take_zero, List.drop_succ_cons, List.drop_zero, Act.put, List.setIfInBounds_toArray, List.set_cons_zero, List.set_cons_succ, Nat.zero_add, Nat.reduceAdd]
          obtain ⟨⟨h1, h2⟩, e6, -⟩ := hd
          obtain ⟨v', w', hrun, hO', hB'⟩ := run_appB (w0 := W5) h1 hE h2 Hn.out (HA5.out.below hE) (by have := hlc.out; have := hn0.out; omega)
          refine step_app (.tmp 66) (.tmp 67) rfl rfl e6 hrun ?_
          exact ⟨_, rfl, hB', hO', hB'.size⟩
        case pps8 =>
          intro v W hE hd; simp only [Region.wanted, ↓reduceIte]; (try simp [deps, waitsOn, Region.binds, knowing, isV, ownsV, anyV] at hd); simp only [putAll, List.take_succ_cons, List.take_zero, List.drop_succ_cons, List.drop_zero, Act.put, List.setIfInBounds_toArray, List.set_cons_zero, List.set_cons_succ, Nat.zero_add, Nat.reduceAdd]; go_simp; exact ⟨Below.refl _ _, rfl⟩
        case pps9 =>
          intro v W hE hd; simp only [Region.wanted, ↓reduceIte]; (try simp [deps, waitsOn, Region.binds, knowing, isV, ownsV, anyV] at hd); simp only [putAll, List.take_succ_cons, List.take_zero, List.drop_succ_cons, List.drop_zero, Act.put, List.setIfInBounds_toArray, List.set_cons_zero, List.set_cons_succ, Nat.zero_add, Nat.reduceAdd]
          have e1 := cell_below hE Hf2.out
          go_simp
          exact ⟨Below.refl _ _, rfl⟩
        case pps10 =>
          intro v W hE hd; simp only [Region.wanted, ↓reduceIte]; (try simp [deps, waitsOn, Region.binds, knowing, isV, ownsV, anyV] at hd); simp only [putAll, List.take_succ_cons, List.take_zero, List.drop_succ_cons, List.drop_zero, Act.put, List.setIfInBounds_toArray, List.set_cons_zero, List.set_cons_succ, Nat.zero_add, Nat.reduceAdd]
          obtain ⟨e1, ⟨h7, h72⟩, e9⟩ := hd
          obtain ⟨A9, c9, e7, -, -⟩ := OB.read h7
          rw [e7] at h7
          obtain ⟨k9, hk9⟩ : ∃ k9, k9 = (b0 ++ bs).length := ⟨_, rfl⟩
          rw [← hk9] at e7 h7
          have H7 := hid h7; clear h7 hk9
          go_simp
          exact ⟨Below.refl _ _, _, rfl, H7.out, h72⟩
      · intro i hk v w1 w2 h
        match i, hk, h with
        | 0, _, h => exact h
        | 1, _, h => exact h
        | 2, hk, _ => exact absurd hk (by decide)
        | 3, _, h => exact h
        | 4, _, h => exact h
        | 5, hk, _ => exact absurd hk (by decide)
        | 6, _, h => exact h
        | 7, hk, _ => exact absurd hk (by decide)
        | 8, _, h => exact h
        | 9, _, h => exact h
        | 10, hk, _ => exact absurd hk (by decide)
        | _ + 11, _, h => exact h
      · rintro v W6 hE ⟨e0, -, -, -, -, -, -, -, -, -, e10, -⟩
        have e0 := (show v 0 = _ from e0 (by decide))
        have e10 := (show _ from e10 (by decide))
        simp only [putAll, List.take_succ_cons, List.take_zero, List.drop_succ_cons, List.drop_zero, Act.put, List.setIfInBounds_toArray, List.set_cons_zero, List.set_cons_succ, Nat.zero_add, Nat.reduceAdd]
        obtain ⟨x, e10, hO, hsz⟩ := e10
        obtain ⟨Ax, cx, ex, hrel⟩ := own_file (S := S) (nm := nm) (sf := 0) hO (fun k hk => H1.out.fresh k (Nat.le_trans HE5.out.size hk))
        obtain ⟨L, hL⟩ : ∃ L, L = (b0 ++ bs).length := ⟨_, rfl⟩
        rw [← hL] at ex hrel
        subst ex
        obtain ⟨z, hz⟩ : ∃ z, z = ((0 : Nat) : Int) := ⟨_, rfl⟩
        rw [← hz] at e10 hrel
        have HL := hid hL; have Hz := hid hz
        clear hL hz
        rw [e0, e10]
        have HE6 := hid (Ext.trans' HE5.out hE)
        have Hrel := hid hrel
        clear e0 e10 hO hE hrel
        go_wp2_with fail
        refine (put_ref' (H1.out.ext HE6.out) nm (b0 ++ bs) 0 Ax L cx z HL.out Hz.out Hrel.out (show (b0 ++ bs).length ≤ 65536 ∧ 0 ≤ (b0 ++ bs).length by have := hlc.out; have := hn0.out; have := Hn.out; rw [List.length_append]; omega) (by first | exact .inr ⟨_, Hat.out⟩ | exact .inl (by have := HN.out; omega))).mono ?_
        rintro e w7 ⟨rfl, S', g', hR, hS, hg⟩
        have HR := hid hR; have HS := hid hS; have hg6 := hid hg
        clear hR hS hg
        go_wp2
        go_ret
        have hsz6 := HE6.out.size
        have hsz1 := S1.out.kept.size
        exact ⟨by rw [E3.out]; rfl, S', g', by rw [E4.out]; exact HR.out, (S1.out.trans (RStep.of_ext HE6.out H1.out.fresh) (.inl rfl)).trans HS.out (.inl rfl), hg6.out.imp id fun h => by omega⟩
  · rw [hi]
    have Hat := hid hat
    obtain ⟨gb, A1, c1, rfl, hgb, f0, f1, f2, hl1, hl2, hr⟩ := hcell k hk
    rw [hFk, Hold.out] at f0 f1 f2 hl1 hr
    have hok := Hok.out F[k] (List.getElem_mem _)
    rw [hFk, Hold.out] at hok
    obtain ⟨n0, hn0'⟩ : ∃ n0, n0 = b0.length := ⟨_, rfl⟩
    rw [← hn0'] at f1 hl1 hok
    have hn0 := hid hn0'
    have Hr0 := hid (RK.rv hr)
    have hkN : (k : Int) < (N : Int) := by have := HN.out; omega
    have hk0 : ¬ ((k : Int) < 0) := by omega
    have hk00 : (0 : Int) ≤ (k : Int) := by omega
    clear hi hat hcell hr hFk hn0'
    by_cases hbig : 65536 < n0 + n ∨ False
    · have e3 := hid (show appE q l F nm bs = 3 by unfold appE; rw [if_neg h0, if_neg (by rw [Hmay.out]; decide), Hold.out]; exact if_pos (by rw [← Hn.out]; show 65536 < List.length b0 + n ∨ _; rw [← hn0.out]; exact hbig.imp id fun h => (by first | exact ⟨Hat.out, by rw [← HN.out]; exact h⟩ | exact h.elim)))
      have e4 := hid (show appF q l F nm bs = F by unfold appF; rw [e3.out]; rfl)
      by_cases hb1 : (65536 : Int) < ((n0 : Nat) : Int) + (n : Int)
      · clear hbig
        go_wp2
        go_ret
        exact ⟨by rw [e3.out]; rfl, S, g, by rw [e4.out]; exact H1.out.ext (by first | exact Below.refl _ _ | exact (Below.refl _ _).alloc (Nat.le_refl _) _ | exact ((Below.refl _ _).alloc (Nat.le_refl _) _).alloc (by simp) _), S1.out.trans (RStep.of_ext (by first | exact Below.refl _ _ | exact (Below.refl _ _).alloc (Nat.le_refl _) _ | exact ((Below.refl _ _).alloc (Nat.le_refl _) _).alloc (by simp) _) H1.out.fresh) (.inl rfl), .inl rfl⟩
      · first
        | (exfalso; rcases hbig with hbig | hbig; (· omega); (· exact hbig))
        | (have hs1 : (200 : Int) ≤ (N : Int) := by omega
           clear hbig
           go_wp2
           go_ret
           exact ⟨by rw [e3.out]; rfl, S, g, by rw [e4.out]; exact H1.out.ext (by first | exact Below.refl _ _ | exact (Below.refl _ _).alloc (Nat.le_refl _) _ | exact ((Below.refl _ _).alloc (Nat.le_refl _) _).alloc (by simp) _), S1.out.trans (RStep.of_ext (by first | exact Below.refl _ _ | exact (Below.refl _ _).alloc (Nat.le_refl _) _ | exact ((Below.refl _ _).alloc (Nat.le_refl _) _).alloc (by simp) _) H1.out.fresh) (.inl rfl), .inl rfl⟩)
    have hlc : Hid (n0 + n ≤ 65536) := by unfold Hid; omega
    have hb1 : ¬ ((65536 : Int) < ((n0 : Nat) : Int) + (n : Int)) := by omega
    have hb2 : True := by first | trivial | omega
    have hsf : sf ≤ n0 := by first | exact hok.2 | omega
    have huu := usedF_ok Hok.out
    clear hbig
    have HEb := hid (show Ext w1 (w1.alloc (.cells #[.string (str nm), .slice A1 n0 c1, .int .i64 ((sf : Nat) : Int)] 88)) from (Below.refl _ _).alloc (Nat.le_refl _) _)
    have Hbx := hid (heap_alloc_last w1 (.cells #[.string (str nm), .slice A1 n0 c1, .int .i64 ((sf : Nat) : Int)] 88))
    go_wp2_with fail
    apply wp_drawn [isV _, isV _, isV _, isV _, isV _, isV _, isV _, isV _, isV _, isV _] (by kernel_rfl)
    · kernel_rfl
    · refine ⟨?uqs0, ?uqs1, ?uqs2, ?uqs3, ?uqs4, ?uqs5, ?uqs6, ?uqs7, ?uqs8, ?uqs9, trivial⟩
      case uqs0 =>
        intro v W hE hd; simp only [Region.wanted, ↓reduceIte]; (try simp [deps, waitsOn, Region.binds, knowing, isV, ownsV, anyV] at hd); simp only [putAll, List.take_succ_cons, List.take_zero, List.drop_succ_cons, List.drop_zero, Act.put, List.setIfInBounds_toArray, List.set_cons_zero, List.set_cons_succ, Nat.zero_add, Nat.reduceAdd]; go_simp; exact ⟨Below.refl _ _, rfl⟩
      case uqs1 =>
        intro v W hE hd; simp only [Region.wanted, ↓reduceIte]; (try simp [deps, waitsOn, Region.binds, knowing, isV, ownsV, anyV] at hd); simp only [putAll, List.take_succ_cons, List.take_zero, List.drop_succ_cons, List.drop_zero, Act.put, List.setIfInBounds_toArray, List.set_cons_zero, List.set_cons_succ, Nat.zero_add, Nat.reduceAdd]
        go_simp
        refine (used_ref ((H1.out.ext HEb.out).ext hE)).mono ?_
        rintro e w' ⟨rfl, rfl⟩
        go_simp
        exact ⟨Below.refl _ _, rfl⟩
      case uqs2 | uqs3 =>
        intro v W hE hd; simp only [Region.wanted, ↓reduceIte]; (try simp [deps, waitsOn, Region.binds, knowing, isV, ownsV, anyV] at hd); simp only [putAll, List.take_succ_cons, List.take_zero, List.drop_succ_cons, List.drop_zero, Act.put, List.setIfInBounds_toArray, List.set_cons_zero, List.set_cons_succ, Nat.zero_add, Nat.reduceAdd]; go_simp; exact ⟨Below.refl _ _, rfl⟩
      case uqs4 =>
        intro v W hE hd; simp only [Region.wanted, ↓reduceIte]; (try simp [deps, waitsOn, Region.binds, knowing, isV, ownsV, anyV] at hd); simp only [putAll, List.take_succ_cons, List.take_zero, List.drop_succ_cons, List.drop_zero, Act.put, List.setIfInBounds_toArray, List.set_cons_zero, List.set_cons_succ, Nat.zero_add, Nat.reduceAdd]
        have e1 := hid (show IntKind.i64.wrap ((usedF F : Int) + (n : Int)) = (usedF F : Int) + (n : Int) by rw [IntKind.wrap_i64]; have := HN.out; omega)
        go_simp
        rw [e1.out]
        exact ⟨Below.refl _ _, rfl⟩
      case uqs5 | uqs6 | uqs7 =>
        intro v W hE hd; simp only [Region.wanted, ↓reduceIte]; (try simp [deps, waitsOn, Region.binds, knowing, isV, ownsV, anyV] at hd); simp only [putAll, List.take_succ_cons, List.take_zero, List.drop_succ_cons, List.drop_zero, Act.put, List.setIfInBounds_toArray, List.set_cons_zero, List.set_cons_succ, Nat.zero_add, Nat.reduceAdd]; go_simp; exact ⟨Below.refl _ _, rfl⟩
      case uqs8 =>
        intro v W hE hd; simp only [Region.wanted, ↓reduceIte]; (try simp [deps, waitsOn, Region.binds, knowing, isV, ownsV, anyV] at hd); simp only [putAll, List.take_succ_cons, List.take_zero, List.drop_succ_cons, List.drop_zero, Act.put, List.setIfInBounds_toArray, List.set_cons_zero, List.set_cons_succ, Nat.zero_add, Nat.reduceAdd]
        have e1 := cell_below (Ext.trans' HEb.out hE) H1.out.quota
        go_simp
        exact ⟨Below.refl _ _, rfl⟩
      case uqs9 =>
        intro v W hE hd; simp only [Region.wanted, ↓reduceIte]; (try simp [deps, waitsOn, Region.binds, knowing, isV, ownsV, anyV] at hd); simp only [putAll, List.take_succ_cons, List.take_zero, List.drop_succ_cons, List.drop_zero, Act.put, List.setIfInBounds_toArray, List.set_cons_zero, List.set_cons_succ, Nat.zero_add, Nat.reduceAdd]; go_simp; exact ⟨Below.refl _ _, rfl⟩
    · rintro v W5 hE ⟨-, -, -, -, -, -, -, -, -, e9, -⟩
      have e9 := (show v 9 = _ from e9)
      simp only [putAll, List.take_succ_cons, List.take_zero, List.drop_succ_cons, List.drop_zero, Act.put, List.setIfInBounds_toArray, List.set_cons_zero, List.set_cons_succ, Nat.zero_add, Nat.reduceAdd]
      rw [e9]
      have HE5 := hid (Ext.trans' HEb.out hE)
      have hbk := (hE.block w1.heap.size (by simp)).trans Hbx.out
      have Hf1 := hid (show W5.cell? ⟨w1.heap.size, 1, none⟩ = some (.slice A1 n0 c1) by rw [cell_of_row _ _ _ _ _ _ hbk]; rfl)
      have Hf2 := hid (show W5.cell? ⟨w1.heap.size, 2, none⟩ = some (.int .i64 ((sf : Nat) : Int)) by rw [cell_of_row _ _ _ _ _ _ hbk]; rfl)
      clear hE e9 hbk
      by_cases hsp : q < (usedF F : Int) + (n : Int)
      · rw [decide_eq_true hsp]
        have e3 := hid (show appE q l F nm bs = 10 by unfold appE; rw [if_neg h0, if_neg (by rw [Hmay.out]; decide), if_neg (by rw [Hold.out, ← Hn.out]; show ¬ (65536 < List.length b0 + n ∨ _); rw [← hn0.out]; have := hlc.out; have := HN.out; rintro (h | h) <;> first | omega | (rw [Hat.out] at h; exact absurd h.1 (by simp))), if_pos (by rw [← Hn.out]; exact hsp)])
        have e4 := hid (show appF q l F nm bs = F by unfold appF; rw [e3.out]; rfl)
        clear hsp
        go_wp2
        go_ret
        exact ⟨by rw [e3.out]; rfl, S, g, by rw [e4.out]; exact H1.out.ext HE5.out, S1.out.trans (RStep.of_ext HE5.out H1.out.fresh) (.inl rfl), .inl rfl⟩
      rw [decide_eq_false hsp]
      have E3 := hid (show appE q l F nm bs = 0 by unfold appE; rw [if_neg h0, if_neg (by rw [Hmay.out]; decide), if_neg (by rw [Hold.out, ← Hn.out]; show ¬ (65536 < List.length b0 + n ∨ _); rw [← hn0.out]; have := hlc.out; have := HN.out; rintro (h | h) <;> first | omega | (rw [Hat.out] at h; exact absurd h.1 (by simp))), if_neg (by rw [← Hn.out]; exact hsp)])
      have E4 := hid (show appF q l F nm bs = putF nm ⟨b0 ++ bs, sf⟩ F by unfold appF; rw [E3.out, Hold.out]; rfl)
      have Hr05 := hid (Hr0.out.below HE5.out)
      have HA5 := hid (RB.below (RK.rv HA1.out) HE5.out)
      clear hsp
      go_wp2_with fail
      apply wp_drawn_w 11 7 [0, 0, 1, 0, 0, 1, 0, 2, 0, 0, 2] [isV _, isV _, emptyB W5.heap.size, isV _, isV _, ownB W5.heap.size b0, isV _, ownB W5.heap.size (b0 ++ bs), isV _, isV _, filP W5.heap.size nm (b0 ++ bs) ((sf : Nat) : Int)] (by decide) (by decide) (by kernel_rfl)
      · kernel_rfl
      · kernel_rfl
      · kernel_rfl
      · refine ⟨?pqs0, ?pqs1, ?pqs2, ?pqs3, ?pqs4, ?pqs5, ?pqs6, ?pqs7, ?pqs8, ?pqs9, ?pqs10, trivial⟩
        case pqs0 | pqs1 =>
          intro v W hE hd; simp only [Region.wanted, ↓reduceIte]; (try simp [deps, waitsOn, Region.binds, knowing, isV, ownsV, anyV] at hd); simp only [putAll, List.take_succ_cons, List.take_zero, List.drop_succ_cons, List.drop_zero, Act.put, List.setIfInBounds_toArray, List.set_cons_zero, List.set_cons_succ, Nat.zero_add, Nat.reduceAdd]; go_simp; exact ⟨Below.refl _ _, rfl⟩
        case pqs2 =>
          intro v W hE hd; simp only [Region.wanted, ↓reduceIte]; (try simp [deps, waitsOn, Region.binds, knowing, isV, ownsV, anyV] at hd); simp only [putAll, List.take_succ_cons, List.take_zero, List.drop_succ_cons, List.drop_zero, Act.put, List.setIfInBounds_toArray, List.set_cons_zero, List.set_cons_succ, Nat.zero_add, Nat.reduceAdd]
          go_simp
          exact ⟨(Below.refl _ _).alloc (Nat.le_refl _) _, _, rfl, OB_empty W _ hE.size, by have := hE.size; simp; omega⟩
        case pqs3 =>
          intro v W hE hd; simp only [Region.wanted, ↓reduceIte]; (try simp [deps, waitsOn, Region.binds, knowing, isV, ownsV, anyV] at hd); simp only [putAll, List.take_succ_cons, List.take_zero, List.drop_succ_cons, List.drop_zero, Act.put, List.setIfInBounds_toArray, List.set_cons_zero, List.set_cons_succ, Nat.zero_add, Nat.reduceAdd]; go_simp; exact ⟨Below.refl _ _, rfl⟩
        case pqs4 =>
          intro v W hE hd; simp only [Region.wanted, ↓reduceIte]; (try simp [deps, waitsOn, Region.binds, knowing, isV, ownsV, anyV] at hd); simp only [putAll, List.take_succ_cons, List.take_zero, List.drop_succ_cons, List.drop_zero, Act.put, List.setIfInBounds_toArray, List.set_cons_zero, List.set_cons_succ, Nat.zero_add, Nat.reduceAdd]
          have e1 := cell_below hE Hf1.out
          go_simp
          exact ⟨Below.refl _ _, rfl⟩
        case pqs5 =>
          intro v W hE hd; simp only [Region.wanted, ↓reduceIte]; (try simp [deps, waitsOn, Region.binds, knowing, isV, ownsV, anyV] at hd); simp only [putAll, List.take_succ_cons, List.take_zero, List.drop_succ_cons, List.drop_zero, Act.put, List.setIfInBounds_toArray, List.set_cons_zero, List.set_cons_succ, Nat.zero_add, Nat.reduceAdd]
          obtain ⟨⟨ge, e1, h1, h2⟩, e4⟩ := hd
          rw [e1] at h1
          obtain ⟨v', w', hrun, hO', hE'⟩ := run_app_empty h1 h2 hn0.out (Hr05.out.below hE) (by have := hlc.out; omega)
          refine step_app (.tmp 63) (.tmp 65) rfl e1 e4 hrun ?_
          exact ⟨_, rfl, hE', hO', Nat.le_trans h2 hE'.size⟩
        case pqs6 =>
          intro v W hE hd; simp only [Region.wanted, ↓reduceIte]; (try simp [deps, waitsOn, Region.binds, knowing, isV, ownsV, anyV] at hd); simp only [putAll, List.take_succ_cons, List.take_zero, List.drop_succ_cons, List.drop_zero, Act.put, List.setIfInBounds_toArray, List.set_cons_zero, List.set_cons_succ, Nat.zero_add, Nat.reduceAdd]; go_simp; exact ⟨Below.refl _ _, rfl⟩
        case pqs7 =>
          intro v W hE hd; simp only [Region.wanted, ↓reduceIte]; (try simp [deps, waitsOn, Region.binds, knowing, isV, ownsV, anyV] at hd); simp only [putAll, List.take_succ_cons, List.take_zero, List.drop_succ_cons, List.drop_zero, Act.put, List.setIfInBounds_toArray, List.set_cons_zero, List.set_cons_succ, Nat.zero_add, Nat.reduceAdd]
          obtain ⟨⟨h1, h2⟩, e6, -⟩ := hd
          obtain ⟨v', w', hrun, hO', hB'⟩ := run_appB (w0 := W5) h1 hE h2 Hn.out (HA5.out.below hE) (by have := hlc.out; have := hn0.out; omega)
          refine step_app (.tmp 66) (.tmp 67) rfl rfl e6 hrun ?_
          exact ⟨_, rfl, hB', hO', hB'.size⟩
        case pqs8 =>
          intro v W hE hd; simp only [Region.wanted, ↓reduceIte]; (try simp [deps, waitsOn, Region.binds, knowing, isV, ownsV, anyV] at hd); simp only [putAll, List.take_succ_cons, List.take_zero, List.drop_succ_cons, List.drop_zero, Act.put, List.setIfInBounds_toArray, List.set_cons_zero, List.set_cons_succ, Nat.zero_add, Nat.reduceAdd]; go_simp; exact ⟨Below.refl _ _, rfl⟩
        case pqs9 =>
          intro v W hE hd; simp only [Region.wanted, ↓reduceIte]; (try simp [deps, waitsOn, Region.binds, knowing, isV, ownsV, anyV] at hd); simp only [putAll, List.take_succ_cons, List.take_zero, List.drop_succ_cons, List.drop_zero, Act.put, List.setIfInBounds_toArray, List.set_cons_zero, List.set_cons_succ, Nat.zero_add, Nat.reduceAdd]
          have e1 := cell_below hE Hf2.out
          go_simp
          exact ⟨Below.refl _ _, rfl⟩
        case pqs10 =>
          intro v W hE hd; simp only [Region.wanted, ↓reduceIte]; (try simp [deps, waitsOn, Region.binds, knowing, isV, ownsV, anyV] at hd); simp only [putAll, List.take_succ_cons, List.take_zero, List.drop_succ_cons, List.drop_zero, Act.put, List.setIfInBounds_toArray, List.set_cons_zero, List.set_cons_succ, Nat.zero_add, Nat.reduceAdd]
          obtain ⟨e1, ⟨h7, h72⟩, e9⟩ := hd
          obtain ⟨A9, c9, e7, -, -⟩ := OB.read h7
          rw [e7] at h7
          obtain ⟨k9, hk9⟩ : ∃ k9, k9 = (b0 ++ bs).length := ⟨_, rfl⟩
          rw [← hk9] at e7 h7
          have H7 := hid h7; clear h7 hk9
          go_simp
          exact ⟨Below.refl _ _, _, rfl, H7.out, h72⟩
      · intro i hk v w1 w2 h
        match i, hk, h with
        | 0, _, h => exact h
        | 1, _, h => exact h
        | 2, hk, _ => exact absurd hk (by decide)
        | 3, _, h => exact h
        | 4, _, h => exact h
        | 5, hk, _ => exact absurd hk (by decide)
        | 6, _, h => exact h
        | 7, hk, _ => exact absurd hk (by decide)
        | 8, _, h => exact h
        | 9, _, h => exact h
        | 10, hk, _ => exact absurd hk (by decide)
        | _ + 11, _, h => exact h
      · rintro v W6 hE ⟨e0, -, -, -, -, -, -, -, -, -, e10, -⟩
        have e0 := (show v 0 = _ from e0 (by decide))
        have e10 := (show _ from e10 (by decide))
        simp only [putAll, List.take_succ_cons, List.take_zero, List.drop_succ_cons, List.drop_zero, Act.put, List.setIfInBounds_toArray, List.set_cons_zero, List.set_cons_succ, Nat.zero_add, Nat.reduceAdd]
        obtain ⟨x, e10, hO, hsz⟩ := e10
        obtain ⟨Ax, cx, ex, hrel⟩ := own_file (S := S) (nm := nm) (sf := sf) hO (fun k hk => H1.out.fresh k (Nat.le_trans HE5.out.size hk))
        obtain ⟨L, hL⟩ : ∃ L, L = (b0 ++ bs).length := ⟨_, rfl⟩
        rw [← hL] at ex hrel
        subst ex
        obtain ⟨z, hz⟩ : ∃ z, z = ((sf : Nat) : Int) := ⟨_, rfl⟩
        rw [← hz] at e10 hrel
        have HL := hid hL; have Hz := hid hz
        clear hL hz
        rw [e0, e10]
        have HE6 := hid (Ext.trans' HE5.out hE)
        have Hrel := hid hrel
        clear e0 e10 hO hE hrel
        go_wp2_with fail
        refine (put_ref' (H1.out.ext HE6.out) nm (b0 ++ bs) sf Ax L cx z HL.out Hz.out Hrel.out (show (b0 ++ bs).length ≤ 65536 ∧ sf ≤ (b0 ++ bs).length by have := hlc.out; have := hn0.out; have := Hn.out; rw [List.length_append]; omega) (by first | exact .inr ⟨_, Hat.out⟩ | exact .inl (by have := HN.out; omega))).mono ?_
        rintro e w7 ⟨rfl, S', g', hR, hS, hg⟩
        have HR := hid hR; have HS := hid hS; have hg6 := hid hg
        clear hR hS hg
        go_wp2
        go_ret
        have hsz6 := HE6.out.size
        have hsz1 := S1.out.kept.size
        exact ⟨by rw [E3.out]; rfl, S', g', by rw [E4.out]; exact HR.out, (S1.out.trans (RStep.of_ext HE6.out H1.out.fresh) (.inl rfl)).trans HS.out (.inl rfl), hg6.out.imp id fun h => by omega⟩
end Go.Proofs.YtakebdeldndaaaaGreatDoor
/- The reference's disk: Sync, Truncate. -/
namespace Go.Proofs.YtakebdeldndaaaaGreatDoor
open Go Go.RowKit
set_option linter.unusedSimpArgs false
set_option linter.unusedVariables false
theorem rows_sync {w : World} {K : Nat → Prop} {s : Nat} : ∀ {F : Files} {cs : List Value} {k : Nat} (hk : k < F.length), Rows RFile w K F cs → Rows RFile w K (F.set k (F[k].1, ⟨F[k].2.b, s⟩)) (cs.set (k * 3 + 2) (.int .i64 (s : Int)))
  | p :: F, _, 0, _, ⟨c, r, rfl, hc, hr⟩ => by
    obtain ⟨A, c', rfl, h1, h2, h3⟩ := rfile_rel hc
    exact ⟨[strV p.1, .slice A p.2.b.length c', .int .i64 (s : Int)], r, rfl, rfile_mk (p := (p.1, ⟨p.2.b, s⟩)) h1 h2 h3, hr⟩
  | p :: F, _, k + 1, hk, ⟨c, r, rfl, hc, hr⟩ => by
    have hk' : k < F.length := by simpa using hk
    obtain ⟨A, c', rfl, h1, h2, h3⟩ := rfile_rel hc
    refine ⟨[strV p.1, .slice A p.2.b.length c', .int .i64 (p.2.safe : Int)], r.set (k * 3 + 2) (.int .i64 (s : Int)), ?_, hc, rows_sync hk' hr⟩
    rw [show (k + 1) * 3 + 2 = (k * 3 + 2) + 3 by omega]
    simp [List.set]
theorem putF_set {F : Files} (hu : Up F) {k : Nat} (hk : k < F.length) {nm : List UInt8} (g : File) (he : F[k].1 = nm) : putF nm g F = F.set k (nm, g) := by
  rw [putF_there nm g hu (List.mem_map.2 ⟨F[k], List.getElem_mem _, he⟩)]
  apply List.ext_getElem
  · simp
  · intro i h1 h2
    rw [List.getElem_map, List.getElem_set]
    have hi : i < F.length := by simpa using h1
    by_cases hik : k = i
    · subst hik
      rw [if_pos (by simpa using he), if_pos rfl]
    · rw [if_neg, if_neg hik]
      intro hb
      have hb' : F[i].1 = nm := by simpa using hb
      have hpw := List.pairwise_iff_getElem.1 hu
      rcases Nat.lt_or_gt_of_ne hik with h | h
      · exact bb_ne (hpw k i hk hi h) (he.trans hb'.symm)
      · exact bb_ne (hpw i k hi hk h) (hb'.trans he.symm)
theorem knownEF_at {l : Int} {F : Files} {nm : List UInt8} (h0 : ¬ l = 0) : knownEF l F nm = if (atF F nm).isSome then 0 else 11 := by unfold knownEF; rw [if_neg h0]
set_option maxRecDepth 100000 in
set_option maxHeartbeats 4000000 in
theorem sync_ref {w : World} {S : Nat → Prop} {y g : Nat} {q l : Int} {F : Files} (h : RefIs w S y g q l F) (nm : List UInt8) :
    Calls Tryz.prog 62 #[.pointer (some ⟨y, 0, none⟩), .string (str nm)] w fun e w' => e = .returned (.int .i64 (knownEF l F nm)) ∧ ∃ S' g', RefIs w' S' y g' q (burnL l) (syncF l F nm) ∧ RStep w w' S S' y g ∧ (g' = g ∨ w.heap.size ≤ g') := by
  have H := hid h
  clear h
  go_enter Tryz.func62, Tryz.ntmps62
  go_wp2_with fail
  refine (burn_ref H.out).mono ?_
  rintro e w1 ⟨rfl, hR, hS⟩
  have H1 := hid hR; have S1 := hid hS
  clear hR hS
  by_cases h0 : l = 0
  · rw [decide_eq_true h0]
    have e3 := hid (show knownEF l F nm = 14 by unfold knownEF; rw [if_pos h0])
    have e4 := hid (show syncF l F nm = F by unfold syncF; rw [if_pos h0])
    go_wp2
    go_ret
    exact ⟨by rw [e3.out]; rfl, S, g, by rw [e4.out]; exact H1.out, S1.out, .inl rfl⟩
  rw [decide_eq_false h0]
  go_wp2_with fail
  refine (at_ref H1.out nm).mono ?_
  rintro e w' ⟨rfl, rfl⟩
  rcases idx_cases F nm with ⟨hat, hi⟩ | ⟨k, hk, f, hat, hi, hFk⟩
  · rw [hi]
    have e3 := hid (show knownEF l F nm = 11 by rw [knownEF_at h0, hat]; rfl)
    have e4 := hid (show syncF l F nm = F by unfold syncF; rw [if_neg h0, hat])
    clear hi hat
    go_wp2
    go_ret
    exact ⟨by rw [e3.out]; rfl, S, g, by rw [e4.out]; exact H1.out, S1.out, .inl rfl⟩
  rw [hi]
  have e3 := hid (show knownEF l F nm = 0 by rw [knownEF_at h0, hat]; rfl)
  have e4 := hid (show syncF l F nm = F.set k (nm, ⟨f.b, f.b.length⟩) by unfold syncF; rw [if_neg h0, hat]; exact putF_set H1.out.up hk _ (by rw [hFk]))
  obtain ⟨v, c2, hO, hvg⟩ := H1.out.row
  obtain ⟨gb, c0, rfl, hob, -, hgb, hc, hcm, hcell⟩ := hO.at_ (by omega)
  have hgb' : gb = g ∧ g ≠ y := by
    rcases hvg with e | ⟨e, e2⟩
    · rw [hob] at e; cases e
    · rw [hob] at e; exact ⟨by simpa using e, e2⟩
  obtain ⟨rfl, hgy⟩ := hgb'
  obtain ⟨d, hd, hcc⟩ := hcell k hk
  obtain ⟨A1, c1, rfl, hl1, hl2, hr⟩ := rfile_rel hd
  have f1 := hcc 1 _ rfl
  have f2 := hcc 2 _ rfl
  rw [hFk] at f1 f2
  obtain ⟨n1, hn1⟩ : ∃ n1, n1 = f.b.length := ⟨_, rfl⟩
  have f1' : w1.cell? ⟨gb, k * 3 + 1, none⟩ = some (.slice A1 n1 c1) := by rw [hn1]; exact f1
  have f2' : w1.cell? ⟨gb, k * 3 + 2, none⟩ = some (.int .i64 (f.safe : Int)) := f2
  obtain ⟨N, hN⟩ : ∃ N, N = F.length := ⟨_, rfl⟩
  have c2' : w1.cell? ⟨y, 2, none⟩ = some (.slice (some ⟨gb, 0, none⟩) N c0) := by rw [hN]; exact c2
  have hfz : w1.frozen? ⟨gb, k * 3 + 2, none⟩ = false := by
    obtain ⟨cs, ho, -⟩ := hO
    rcases ho.2 with ⟨h1, h2⟩ | ⟨g2, cap, cur, h1, hb, hg, -⟩
    · cases h1
    · simp only [Value.slice.injEq, Option.some.injEq, Addr.mk.injEq, and_true] at h1
      obtain ⟨rfl, -⟩ := h1
      exact frozen_of_row w1 gb _ cur _ hg
  have HO := hid hO; have HFk := hid hFk; have Hn1 := hid hn1; have HN := hid hN
  have F1 := hid f1'; have F2 := hid f2'; have C2 := hid c2'; have FZ := hid hfz
  have hkN : (k : Int) < (N : Int) := by omega
  have hk0 : (0 : Int) ≤ (k : Int) := by omega
  have hk00 : ¬ ((k : Int) < 0) := by omega
  have hfew := H1.out.few
  have hN200 : N ≤ 200 := by omega
  clear hi hat hFk c2 hO hvg hcell hd hcc f1 f2 f1' f2' hn1 hN c2' hfz hr hob
  go_wp2_with fail
  apply wp_drawn_last 16 [isV _, isV _, isV _, isV _, isV _, isV _, isV _, isV _, isV _, isV _, isV _, isV _, isV _, isV _, isV _, isV _] (by decide) (by kernel_rfl)
  · kernel_rfl
  · kernel_rfl
  · refine ⟨?r7s0, ?r7s1, ?r7s2, ?r7s3, ?r7s4, ?r7s5, ?r7s6, ?r7s7, ?r7s8, ?r7s9, ?r7s10, ?r7s11, ?r7s12, ?r7s13, ?r7s14, ?r7s15, trivial⟩
    case r7s0 | r7s1 | r7s2 =>
      intro v W hE hd; simp only [Region.wanted, ↓reduceIte]; (try simp [deps, waitsOn, Region.binds, knowing, isV, ownsV, anyV] at hd); simp only [putAll, List.take_succ_cons, List.take_zero, List.drop_succ_cons, List.drop_zero, Act.put, List.setIfInBounds_toArray, List.set_cons_zero, List.set_cons_succ, Nat.zero_add, Nat.reduceAdd]; go_simp; exact ⟨Below.refl _ _, rfl⟩
    case r7s3 =>
      intro v W hE hd; simp only [Region.wanted, ↓reduceIte]; (try simp [deps, waitsOn, Region.binds, knowing, isV, ownsV, anyV] at hd); simp only [putAll, List.take_succ_cons, List.take_zero, List.drop_succ_cons, List.drop_zero, Act.put, List.setIfInBounds_toArray, List.set_cons_zero, List.set_cons_succ, Nat.zero_add, Nat.reduceAdd]
      have e1 := cell_below hE C2.out
      go_simp
      exact ⟨Below.refl _ _, rfl⟩
    case r7s4 | r7s5 | r7s6 | r7s7 =>
      intro v W hE hd; simp only [Region.wanted, ↓reduceIte]; (try simp [deps, waitsOn, Region.binds, knowing, isV, ownsV, anyV] at hd); simp only [putAll, List.take_succ_cons, List.take_zero, List.drop_succ_cons, List.drop_zero, Act.put, List.setIfInBounds_toArray, List.set_cons_zero, List.set_cons_succ, Nat.zero_add, Nat.reduceAdd]; go_simp; exact ⟨Below.refl _ _, rfl⟩
    case r7s8 =>
      intro v W hE hd; simp only [Region.wanted, ↓reduceIte]; (try simp [deps, waitsOn, Region.binds, knowing, isV, ownsV, anyV] at hd); simp only [putAll, List.take_succ_cons, List.take_zero, List.drop_succ_cons, List.drop_zero, Act.put, List.setIfInBounds_toArray, List.set_cons_zero, List.set_cons_succ, Nat.zero_add, Nat.reduceAdd]
      have e1 := cell_below hE C2.out
      go_simp
      exact ⟨Below.refl _ _, rfl⟩
    case r7s9 | r7s10 | r7s11 =>
      intro v W hE hd; simp only [Region.wanted, ↓reduceIte]; (try simp [deps, waitsOn, Region.binds, knowing, isV, ownsV, anyV] at hd); simp only [putAll, List.take_succ_cons, List.take_zero, List.drop_succ_cons, List.drop_zero, Act.put, List.setIfInBounds_toArray, List.set_cons_zero, List.set_cons_succ, Nat.zero_add, Nat.reduceAdd]; go_simp; exact ⟨Below.refl _ _, rfl⟩
    case r7s12 =>
      intro v W hE hd; simp only [Region.wanted, ↓reduceIte]; (try simp [deps, waitsOn, Region.binds, knowing, isV, ownsV, anyV] at hd); simp only [putAll, List.take_succ_cons, List.take_zero, List.drop_succ_cons, List.drop_zero, Act.put, List.setIfInBounds_toArray, List.set_cons_zero, List.set_cons_succ, Nat.zero_add, Nat.reduceAdd]
      have e1 := cell_below hE F1.out
      go_simp
      exact ⟨Below.refl _ _, rfl⟩
    case r7s13 | r7s14 | r7s15 =>
      intro v W hE hd; simp only [Region.wanted, ↓reduceIte]; (try simp [deps, waitsOn, Region.binds, knowing, isV, ownsV, anyV] at hd); simp only [putAll, List.take_succ_cons, List.take_zero, List.drop_succ_cons, List.drop_zero, Act.put, List.setIfInBounds_toArray, List.set_cons_zero, List.set_cons_succ, Nat.zero_add, Nat.reduceAdd]; go_simp; exact ⟨Below.refl _ _, rfl⟩
  · rintro v W hE ⟨-, -, -, -, -, -, -, -, -, -, -, -, -, e13, -, e15, -⟩
    have e13 := (show v 13 = _ from e13)
    have e15 := (show v 15 = _ from e15)
    simp only [putAll, List.take_succ_cons, List.take_zero, List.drop_succ_cons, List.drop_zero, Act.put, List.setIfInBounds_toArray, List.set_cons_zero, List.set_cons_succ, Nat.zero_add, Nat.reduceAdd]
    rw [e13, e15]
    have g2 := cell_below hE F2.out
    have gz : W.frozen? ⟨gb, k * 3 + 2, none⟩ = false := (World.frozen?_of_block (a := ⟨gb, k * 3 + 2, none⟩) (hE.block gb hgb)).trans FZ.out
    have HE := hid hE
    clear e13 e15 hE
    go_wp2
    go_ret
    have HW := H1.out.ext HE.out
    have hbk : ∀ j, j ≠ gb → (W.setCell ⟨gb, k * 3 + 2, none⟩ (.int .i64 (n1 : Int))).heap[j]? = W.heap[j]? := fun j hj => heap_setCell_other W ⟨gb, k * 3 + 2, none⟩ j _ hj
    obtain ⟨cs, ho, hr⟩ := HO.out.ext HE.out fun k hk => hk.1
    have hst := World.ownsRow.stored ho (k * 3 + 2) (.int .i64 (n1 : Int))
    have hrs := rows_sync (s := n1) (k := k) (by omega) hr
    have hsz := HE.out.size
    have hF' : F.set k (nm, (⟨f.b, f.b.length⟩ : File)) = F.set k ((F[k]'(by omega)).1, ⟨(F[k]'(by omega)).2.b, n1⟩) := by rw [HFk.out, Hn1.out]
    refine ⟨by rw [e3.out]; rfl, S, gb, ?_, S1.out.trans ⟨⟨HE.out.os, HE.out.tape, HE.out.output, by simpa using hsz, fun j hj h1 h2 => (hbk j h2).trans (HE.out.block j hj)⟩, fun _ _ => Iff.rfl, fun j hj => HW.fresh j (by simpa using hj)⟩ (.inl rfl), .inl rfl⟩
    rw [e4.out, hF']
    refine ⟨(World.cell?_of_block (a := ⟨y, 0, none⟩) (hbk y hgy.symm)).trans HW.quota, (World.cell?_of_block (a := ⟨y, 1, none⟩) (hbk y hgy.symm)).trans HW.left, fun j => (World.frozen?_of_block (a := ⟨y, j, none⟩) (hbk y hgy.symm)).trans (HW.free j), ⟨.slice (some ⟨gb, 0, none⟩) N c0, (World.cell?_of_block (a := ⟨y, 2, none⟩) (hbk y hgy.symm)).trans (cell_below HE.out C2.out), ⟨cs.set (k * 3 + 2) (.int .i64 (n1 : Int)), ?_, ?_⟩, .inr ⟨rfl, hgy⟩⟩, HW.own, HW.ownG, by simpa using HW.glt, fun j hj => HW.fresh j (by simpa using hj), by rw [List.length_set]; exact HW.few, ?_, ?_, HW.lr⟩
    · rw [List.length_set, HN.out]; exact hst.1
    · refine (hrs.mono fun j hj => (⟨Nat.lt_of_lt_of_le hj.1 hsz, hj.2⟩ : Imm W S j)).ext (fun j hj => hbk j fun e => hj.2 (by rw [e]; exact HW.ownG)) |>.mono fun j hj => ⟨by simpa using hj.1, hj.2⟩
    · rw [← hF', ← putF_set HW.up (by omega) _ (by rw [HFk.out])]; exact up_putF HW.up _ _
    · rw [← hF', ← putF_set HW.up (by omega) _ (by rw [HFk.out])]
      have := HW.ok F[k] (List.getElem_mem _)
      rw [HFk.out] at this
      exact ok_putF HW.ok _ ⟨this.1, Nat.le_refl _⟩
end Go.Proofs.YtakebdeldndaaaaGreatDoor
/- The reference's disk: Truncate. -/
namespace Go.Proofs.YtakebdeldndaaaaGreatDoor
open Go Go.RowKit
set_option linter.unusedSimpArgs false
set_option linter.unusedVariables false
end Go.Proofs.YtakebdeldndaaaaGreatDoor
/- The reference's disk: Remove, Rename, Fuse. -/
namespace Go.Proofs.YtakebdeldndaaaaGreatDoor
open Go Go.RowKit
set_option linter.unusedSimpArgs false
set_option linter.unusedVariables false
set_option maxRecDepth 100000 in
set_option maxHeartbeats 2000000 in
theorem remove_ref {w : World} {S : Nat → Prop} {y g : Nat} {q l : Int} {F : Files} (h : RefIs w S y g q l F) (nm : List UInt8) :
    Calls Tryz.prog 49 #[.pointer (some ⟨y, 0, none⟩), .string (str nm)] w fun e w' => e = .returned (.int .i64 (knownEF l F nm)) ∧ ∃ S' g', RefIs w' S' y g' q (burnL l) (dropF l F nm) ∧ RStep w w' S S' y g ∧ (g' = g ∨ w.heap.size ≤ g') := by
  have H := hid h
  clear h
  go_enter Tryz.func49, Tryz.ntmps49
  go_wp2_with fail
  refine (burn_ref H.out).mono ?_
  rintro e w1 ⟨rfl, hR, hS⟩
  have H1 := hid hR; have S1 := hid hS
  clear hR hS
  by_cases h0 : l = 0
  · rw [decide_eq_true h0]
    have e3 := hid (show knownEF l F nm = 14 by unfold knownEF; rw [if_pos h0])
    have e4 := hid (show dropF l F nm = F by unfold dropF; rw [if_pos h0])
    go_wp2
    go_ret
    exact ⟨by rw [e3.out]; rfl, S, g, by rw [e4.out]; exact H1.out, S1.out, .inl rfl⟩
  rw [decide_eq_false h0]
  go_wp2_with fail
  refine (at_ref H1.out nm).mono ?_
  rintro e w' ⟨rfl, rfl⟩
  rcases idx_cases F nm with ⟨hat, hi⟩ | ⟨k, hk, f, hat, hi, hFk⟩
  · rw [hi]
    have e3 := hid (show knownEF l F nm = 11 by rw [knownEF_at h0, hat]; rfl)
    have e4 := hid (show dropF l F nm = F by unfold dropF; rw [if_neg h0, hat])
    clear hi hat
    go_wp2
    go_ret
    exact ⟨by rw [e3.out]; rfl, S, g, by rw [e4.out]; exact H1.out, S1.out, .inl rfl⟩
  rw [hi]
  have e3 := hid (show knownEF l F nm = 0 by rw [knownEF_at h0, hat]; rfl)
  have e4 := hid (show dropF l F nm = delF nm F by unfold dropF; rw [if_neg h0, hat])
  have Hat := hid hat
  have hk00 : ¬ ((k : Int) < 0) := by omega
  clear hi hat hFk
  go_wp2_with fail
  refine (drop_ref H1.out nm f Hat.out).mono ?_
  rintro e w2 ⟨rfl, S', g', hR, hS, hg⟩
  have HR := hid hR; have HS := hid hS; have hg6 := hid hg
  clear hR hS hg
  go_wp2
  go_ret
  have hsz1 := S1.out.kept.size
  exact ⟨by rw [e3.out]; rfl, S', g', by rw [e4.out]; exact HR.out, S1.out.trans HS.out (.inl rfl), hg6.out.imp id fun h => by omega⟩
theorem fuse_ref {w : World} {S : Nat → Prop} {y g : Nat} {q l : Int} {F : Files} (h : RefIs w S y g q l F) (n : Int) (hn : n ≤ 9223372036854775807) :
    Calls Tryz.prog 16 #[.pointer (some ⟨y, 0, none⟩), .int .i64 n] w fun e w' => e = .returned (.tuple #[]) ∧ ∃ S' g', RefIs w' S' y g' q (max n 0) F ∧ RStep w w' S S' y g ∧ (g' = g ∨ w.heap.size ≤ g') := by
  have hmax := run_max0 n (max n 0) rfl
  have hrl := h.relit (max n 0) (by omega)
  obtain ⟨x, hx⟩ : ∃ x, x = max n 0 := ⟨_, rfl⟩
  rw [← hx] at hmax hrl ⊢
  have c1 := h.left
  have c2 := h.free 1
  have Hrl := hid hrl
  have Hf := hid h.fresh
  clear hx h hrl
  go_enter Tryz.func16, Tryz.ntmps16
  go_wp2
  go_end0
  exact ⟨rfl, S, g, Hrl.out.1, ⟨Hrl.out.2, fun _ _ => Iff.rfl, fun k hk => Hf.out k (by simpa using hk)⟩, .inl rfl⟩
set_option maxRecDepth 100000 in
set_option maxHeartbeats 2000000 in
theorem rename_ref {w : World} {S : Nat → Prop} {y g : Nat} {q l : Int} {F : Files} (h : RefIs w S y g q l F) (na nb : List UInt8) (hnb : nb.length ≤ 9223372036854775807) :
    Calls Tryz.prog 63 #[.pointer (some ⟨y, 0, none⟩), .string (str na), .string (str nb)] w fun e w' => e = .returned (.int .i64 (renEF l F na nb)) ∧ ∃ S' g', RefIs w' S' y g' q (burnL l) (renF l F na nb) ∧ RStep w w' S S' y g ∧ (g' = g ∨ w.heap.size ≤ g') := by
  have H := hid h
  clear h
  go_enter Tryz.func63, Tryz.ntmps63
  go_wp2_with fail
  refine (burn_ref H.out).mono ?_
  rintro e w1 ⟨rfl, hR, hS⟩
  have H1 := hid hR; have S1 := hid hS
  clear hR hS
  by_cases h0 : l = 0
  · rw [decide_eq_true h0]
    have e3 := hid (show renEF l F na nb = 14 by unfold renEF; rw [if_pos h0])
    have e4 := hid (show renF l F na nb = F by unfold renF; rw [e3.out]; split <;> rfl)
    go_wp2
    go_ret
    exact ⟨by rw [e3.out]; rfl, S, g, by rw [e4.out]; exact H1.out, S1.out, .inl rfl⟩
  rw [decide_eq_false h0]
  go_wp2_with fail
  refine (at_ref H1.out na).mono ?_
  rintro e w' ⟨rfl, rfl⟩
  rcases idx_cases F na with ⟨hat, hi⟩ | ⟨k, hk, f, hat, hi, hFk⟩
  · rw [hi]
    have e3 := hid (show renEF l F na nb = 11 by unfold renEF; rw [if_neg h0, if_pos hat])
    have e4 := hid (show renF l F na nb = F by unfold renF; rw [hat])
    clear hi hat
    go_wp2
    go_ret
    exact ⟨by rw [e3.out]; rfl, S, g, by rw [e4.out]; exact H1.out, S1.out, .inl rfl⟩
  rw [hi]
  have Hat := hid hat
  have hk00 : ¬ ((k : Int) < 0) := by omega
  clear hi hat
  go_wp2_with fail
  refine (refMay_at nb _ hnb).mono ?_
  rintro e w' ⟨rfl, rfl⟩
  cases hmay : mayB nb
  · have e3 := hid (show renEF l F na nb = 5 by unfold renEF; rw [if_neg h0, if_neg (by rw [Hat.out]; simp), if_pos hmay])
    have e4 := hid (show renF l F na nb = F by unfold renF; rw [e3.out, Hat.out]; rfl)
    clear hmay
    go_wp2
    go_ret
    exact ⟨by rw [e3.out]; rfl, S, g, by rw [e4.out]; exact H1.out, S1.out, .inl rfl⟩
  have Hmay := hid hmay; clear hmay
  go_wp2_with fail
  refine (at_ref H1.out nb).mono ?_
  rintro e w' ⟨rfl, rfl⟩
  rcases idx_cases F nb with ⟨hat2, hi2⟩ | ⟨k2, hk2, f2, hat2, hi2, -⟩
  rotate_left
  · rw [hi2]
    have e3 := hid (show renEF l F na nb = 12 by unfold renEF; rw [if_neg h0, if_neg (by rw [Hat.out]; simp), if_neg (by rw [Hmay.out]; decide), if_pos (by rw [hat2]; rfl)])
    have e4 := hid (show renF l F na nb = F by unfold renF; rw [e3.out, Hat.out]; rfl)
    have hk200 : (0 : Int) ≤ (k2 : Int) := by omega
    clear hi2 hat2
    go_wp2
    go_ret
    exact ⟨by rw [e3.out]; rfl, S, g, by rw [e4.out]; exact H1.out, S1.out, .inl rfl⟩
  rw [hi2]
  have e3 := hid (show renEF l F na nb = 0 by unfold renEF; rw [if_neg h0, if_neg (by rw [Hat.out]; simp), if_neg (by rw [Hmay.out]; decide), if_neg (by rw [hat2]; decide)])
  have e4 := hid (show renF l F na nb = putF nb f (delF na F) by unfold renF; rw [e3.out, Hat.out]; rfl)
  clear hi2 hat2
  obtain ⟨A0, c0, c2, hc, hcm, hcell⟩ := H1.out.reads
  obtain ⟨gb, A1, c1, rfl, hgb, f0, f1, f2, hl1, hl2, hr⟩ := hcell k hk
  rw [hFk] at f0 f1 f2 hl1 hr
  have hok := H1.out.ok F[k] (List.getElem_mem _)
  rw [hFk] at hok
  have Hok := hid hok
  obtain ⟨n, hn⟩ : ∃ n, n = f.b.length := ⟨_, rfl⟩
  have f1' : w1.cell? ⟨gb, k * 3 + 1, none⟩ = some (.slice A1 n c1) := by rw [hn]; exact f1
  obtain ⟨N, hN⟩ : ∃ N, N = F.length := ⟨_, rfl⟩
  rw [← hN] at c2 hc
  have hl1' : n ≤ c1 := by rw [hn]; exact hl1
  have Hn := hid hn
  have Hr := hid hr
  have hkN : (k : Int) < (N : Int) := by omega
  have hk0 : (0 : Int) ≤ (k : Int) := by omega
  have hN200 : N ≤ 200 := by have := H1.out.few; omega
  clear hFk hcell f1 hn hN hr hok hl1
  have HEb := hid (show Ext w1 (w1.alloc (.cells #[.string (str na), .slice A1 n c1, .int .i64 (f.safe : Int)] 88)) from (Below.refl _ _).alloc (Nat.le_refl _) _)
  have Hbx := hid (heap_alloc_last w1 (.cells #[.string (str na), .slice A1 n c1, .int .i64 (f.safe : Int)] 88))
  go_wp2_with fail
  refine (drop_ref (H1.out.ext HEb.out) na f Hat.out).mono ?_
  rintro e w2 ⟨rfl, S', g', hR, hS, hg⟩
  have hsz1 := S1.out.kept.size
  have hszb := HEb.out.size
  have hne1 : w1.heap.size ≠ y := by have := H1.out.lt; omega
  have hne2 : w1.heap.size ≠ g := by have := H1.out.glt; omega
  have hbk := (hS.kept.block w1.heap.size (by simp) hne1 hne2).trans Hbx.out
  have b1 : w2.cell? ⟨w1.heap.size, 1, none⟩ = some (.slice A1 n c1) := by rw [cell_of_row _ _ _ _ _ _ hbk]; rfl
  have b2 : w2.cell? ⟨w1.heap.size, 2, none⟩ = some (.int .i64 (f.safe : Int)) := by rw [cell_of_row _ _ _ _ _ _ hbk]; rfl
  have hS12 := (RStep.of_ext HEb.out H1.out.fresh).trans hS (.inl rfl)
  have hrel : RFile.rel w2 (Imm w2 S') (nb, ⟨f.b, f.safe⟩) [strV nb, .slice A1 n c1, .int .i64 (f.safe : Int)] := by
    rw [Hn.out]
    refine rfile_mk (p := (nb, ⟨f.b, f.safe⟩)) (by rw [← Hn.out]; exact hl1') hl2 ?_
    refine (RK.ext Hr.out fun j hj => hS12.kept.block j hj.1 ?_ ?_).mono fun j hj => ⟨Nat.lt_of_lt_of_le hj.1 hS12.kept.size, fun hs => hj.2 ((hS12.same j hj.1).1 hs)⟩
    · rintro rfl; exact hj.2 H1.out.own
    · rintro rfl; exact hj.2 H1.out.ownG
  have HR := hid hR; have HS := hid hS; have Hg := hid hg; have Hrel := hid hrel
  clear hR hS hg hrel hbk hS12 c2 f0 f2 f1'
  go_wp2_with fail
  refine (put_ref' HR.out nb f.b f.safe A1 n c1 (f.safe : Int) Hn.out rfl Hrel.out Hok.out (.inl (by have := length_delF_there H1.out.up Hat.out; have := H1.out.few; omega))).mono ?_
  rintro e w7 ⟨rfl, S2, g2, hR, hS, hg⟩
  have HR2 := hid hR; have HS2 := hid hS; have Hg2 := hid hg
  clear hR hS hg
  go_wp2
  go_ret
  have hs2 := HS.out.kept.size
  have hgg : g' = g ∨ w.heap.size ≤ g' := Hg.out.imp id fun h => by omega
  refine ⟨by rw [e3.out]; rfl, S2, g2, by rw [e4.out]; exact HR2.out, ((S1.out.trans (RStep.of_ext HEb.out H1.out.fresh) (.inl rfl)).trans HS.out (.inl rfl)).trans HS2.out hgg, ?_⟩
  rcases Hg2.out with h | h
  · rw [h]; exact hgg
  · exact .inr (by omega)
end Go.Proofs.YtakebdeldndaaaaGreatDoor
/- The reference's disk: Turn. -/
namespace Go.Proofs.YtakebdeldndaaaaGreatDoor
open Go Go.RowKit
set_option linter.unusedSimpArgs false
set_option linter.unusedVariables false
end Go.Proofs.YtakebdeldndaaaaGreatDoor
/- The reference's disk: Crash. -/
namespace Go.Proofs.YtakebdeldndaaaaGreatDoor
open Go Go.RowKit
set_option linter.unusedSimpArgs false
set_option linter.unusedVariables false
theorem ref_stored3 {w W : World} {S : Nat → Prop} {y g : Nat} {q l : Int} {F F' : Files} {v : Value} {B : Nat} (h : RefIs w S y g q l F) (hu : Up F') (hok : OkF F') (hfew : F'.length ≤ 200)
    (hE : Ext w W) (hO : OwnS RFile 88 S W B v F') (hB : w.heap.size ≤ B) :
    ∃ S' g', RefIs (W.setCell ⟨y, 2, none⟩ v) S' y g' q l F' ∧ RStep w (W.setCell ⟨y, 2, none⟩ v) S S' y g ∧ (g' = g ∨ w.heap.size ≤ g') := by
  have hy := h.lt
  have hb := hE.block y hy
  obtain ⟨v0, e1, -, -⟩ := h.row
  have hsz := hE.size
  have hglt := h.glt
  obtain ⟨cs, ho, hr⟩ := hO
  obtain ⟨g', hob, hg'⟩ : ∃ g', (v.ownBlock = none ∨ v.ownBlock = some g') ∧ ((v.ownBlock = none ∧ g' = g) ∨ (v.ownBlock = some g' ∧ B ≤ g' ∧ g' < W.heap.size)) := by
    cases hq : v.ownBlock with
    | none => exact ⟨g, .inl rfl, .inl ⟨rfl, rfl⟩⟩
    | some k => have := World.ownsRow.lt ho k hq; exact ⟨k, .inr rfl, .inr ⟨rfl, this.1, this.2⟩⟩
  have hgg : g' = g ∨ w.heap.size ≤ g' := by
    rcases hg' with ⟨-, h⟩ | ⟨-, h, -⟩
    · exact .inl h
    · exact .inr (by omega)
  have hgW : g' < W.heap.size := by
    rcases hg' with ⟨-, h⟩ | ⟨-, -, h⟩
    · omega
    · exact h
  have hS' : ∀ k, (W.setCell ⟨y, 2, none⟩ v).heap.size ≤ k → ¬ (S k ∨ k = g') := fun k hk => by
    have hk' : W.heap.size ≤ k := by simpa using hk
    rintro (h' | h')
    · exact h.fresh k (by omega) h'
    · omega
  refine ⟨fun k => S k ∨ k = g', g', ⟨?_, ?_, ?_, ⟨v, ?_, ⟨cs, ?_, ?_⟩, ?_⟩, .inl h.own, .inr rfl, by simpa using hgW, hS', hfew, hu, hok, h.lr⟩, ⟨⟨hE.os, hE.tape, hE.output, by simpa using hsz, fun k hk h1 _ => (heap_setCell_other W ⟨y, 2, none⟩ k v h1).trans (hE.block k hk)⟩, fun k hk => ⟨fun h' => by rcases h' with h' | h'; exact h'; rcases hgg with e | e; (rw [h', e]; exact h.ownG); omega, .inl⟩, hS'⟩, hgg⟩
  · exact (World.cell?_setCell_other (w := W) (a := ⟨y, 2, none⟩) (b := ⟨y, 0, none⟩) (v := v) (h := by simp)).trans ((World.cell?_of_block (a := ⟨y, 0, none⟩) hb).trans h.quota)
  · exact (World.cell?_setCell_other (w := W) (a := ⟨y, 2, none⟩) (b := ⟨y, 1, none⟩) (v := v) (h := by simp)).trans ((World.cell?_of_block (a := ⟨y, 1, none⟩) hb).trans h.left)
  · intro k; simp only [World.frozen?_setCell]; exact (World.frozen?_of_block (a := ⟨y, k, none⟩) hb).trans (h.free k)
  · exact World.cell?_setCell_same (w := W) (a := ⟨y, 2, none⟩) (h := (World.cell?_of_block (a := ⟨y, 2, none⟩) hb).trans e1) ..
  · refine ownsRow_base (World.ownsRow.kept (row := some y) ho ⟨rfl, rfl, rfl, by simp, fun k _ hk => heap_setCell_other W ⟨y, 2, none⟩ k v (fun e => hk (by rw [e]))⟩ ?_) (Nat.zero_le _)
    rcases hg' with ⟨e, -⟩ | ⟨e, h1, -⟩
    · exact .inl e
    · exact .inr (by rw [e]; intro e'; simp only [Option.some.injEq] at e'; omega)
  · refine (hr.ext fun k hk => heap_setCell_other W ⟨y, 2, none⟩ k v (fun e => hk.2.2 (by rw [show k = y from e]; exact h.own))).mono fun k hk => ⟨by have := hk.1; simpa using this, ?_⟩
    rintro (h' | h')
    · exact hk.2.2 h'
    · rcases hg' with ⟨e, e'⟩ | ⟨e, h1, -⟩
      · exact hk.2.2 (by rw [h', e']; exact h.ownG)
      · exact hk.2.1 (by rw [e, h'])
  · rcases hg' with ⟨e, -⟩ | ⟨e, h1, -⟩
    · exact .inl e
    · exact .inr ⟨e, by omega⟩
def boxF (base : Nat) (nm bs : List UInt8) (sf : Int) : SPred := ⟨fun v w => ∃ g x, v = .slice (some ⟨g, 0, none⟩) 1 1 ∧ w.heap[g]? = some (.cells #[.string (str nm), x, .int .i64 sf] 88) ∧ base ≤ g ∧ OB w base x bs,
  fun _ _ _ ⟨g, x, h1, h2, h3, h4⟩ hE => ⟨g, x, h1, by rw [hE.block g (Array.getElem?_eq_some_iff.1 h2).1]; exact h2, h3, h4.below hE⟩⟩
theorem box_others {W : World} {S : Nat → Prop} {base : Nat} {v x : Value} {nm bs : List UInt8} {sf g : Nat} (hb : W.heap[g]? = some (.cells #[.string (str nm), x, .int .i64 (sf : Int)] 88)) (h : OB W base x bs) (hS : ∀ k, base ≤ k → ¬ S k) (hv : ∀ k, v.ownBlock = some k → k < base) :
    ∃ cs, Rows RFile W (OthersS S W v) [(nm, ⟨bs, sf⟩)] cs ∧ RV W (some ⟨g, 0, none⟩) cs := by
  obtain ⟨A, c, e, hc, hr⟩ := OB.read h
  have hm : c ≤ 9223372036854775807 := by
    rcases h.2 with ⟨h1, h2⟩ | ⟨g, cap, cur, h1, _, _, _, hm, _⟩
    · rw [h1] at e; simp only [Value.slice.injEq] at e; omega
    · rw [h1] at e; simp only [Value.slice.injEq] at e; simp only [maxLen] at hm; omega
  have hrel : RFile.rel W (OthersS S W v) (nm, ⟨bs, sf⟩) [strV nm, .slice A bs.length c, .int .i64 (sf : Int)] := by
    refine rfile_mk (p := (nm, ⟨bs, sf⟩)) hc hm (RK.of_rv hr fun b o e' hlt => ?_)
    rw [e] at h
    have hbb := own_base h b (by rw [e']; rfl)
    exact ⟨hlt, fun hh => by have := hv b hh; omega, hS b hbb⟩
  subst e
  refine ⟨_, Rows.single hrel, .inr ⟨g, 0, rfl, fun j u hu => ?_⟩⟩
  rw [cell_of_row _ _ _ _ _ _ hb, Nat.zero_add]
  simpa [strV] using hu
theorem up_crashF (keep : Int) {F : Files} (h : Up F) : Up (crashF keep F) := up_names h (by unfold crashF; rw [List.map_map]; rfl)
theorem ok_crashF (keep : Int) {F : Files} (h : OkF F) : OkF (crashF keep F) := by
  intro p hp
  obtain ⟨f, hf, rfl⟩ := List.mem_map.1 hp
  have := h f hf
  simp only [crash1, List.length_take]
  unfold crashN
  omega
theorem crashF_take (keep : Int) (F : Files) (k : Nat) (hk : k < F.length) : (crashF keep F).take (k + 1) = (crashF keep F).take k ++ [(F[k].1, crash1 keep F[k].2)] := by
  unfold crashF
  rw [List.take_succ_eq_append_getElem (by simpa using hk)]
  simp
set_option maxRecDepth 100000 in
set_option maxHeartbeats 4000000 in
theorem crash_ref {w : World} {S : Nat → Prop} {y g : Nat} {q l : Int} {F : Files} (h : RefIs w S y g q l F) (keep : Int) (hkeep : keep ≤ 9223372036854775807) :
    Calls Tryz.prog 20 #[.pointer (some ⟨y, 0, none⟩), .int .i64 keep] w fun e w' => e = .returned (.tuple #[]) ∧ ∃ S' g', RefIs w' S' y g' q (-1) (crashF keep F) ∧ RStep w w' S S' y g ∧ (g' = g ∨ w.heap.size ≤ g') := by
  have c1 := h.left
  have cf := h.free
  obtain ⟨hR, hK⟩ := h.relit (-1) (by omega)
  have S1 := hid (show RStep w (w.setCell ⟨y, 1, none⟩ (.int .i64 (-1))) S S y g from ⟨hK, fun _ _ => Iff.rfl, fun k hk => h.fresh k (by simpa using hk)⟩)
  have hmax := run_max0 keep ((max keep 0).toNat : Int) (by omega)
  obtain ⟨kp, hkp⟩ : ∃ kp, kp = (max keep 0).toNat := ⟨_, rfl⟩
  have hkm : (kp : Int) ≤ 9223372036854775807 := by omega
  rw [← hkp] at hmax
  have Hkp := hid hkp
  have H1 := hid hR
  obtain ⟨A0, c0, c2, hc, hcm, hcell⟩ := hR.reads
  have hfew := hR.few
  obtain ⟨N, hN⟩ : ∃ N, N = F.length := ⟨_, rfl⟩
  rw [← hN] at c2 hc hfew
  have HN := hid hN
  have HC := hid hcell
  have Hsz := hid (show (w.setCell ⟨y, 1, none⟩ (.int .i64 (-1))).heap.size = w.heap.size by simp)
  clear h hK hR hkp hN hcell
  go_enter Tryz.func20, Tryz.ntmps20
  go_wp2_with fail
  clear c1 cf
  generalize w.setCell ⟨y, 1, none⟩ (.int .i64 (-1)) = w1 at *
  have C2 := hid c2
  clear c2
  go_loopw [4, 5] (fun v i wr => ∃ k : Nat, k ≤ N ∧ i = .int .i64 (k : Int) ∧ Hid (OwnS RFile 88 S wr w.heap.size v ((crashF keep F).take k)) ∧ Hid (Ext w1 wr)) (fun _ i _ => N - (intOf i).toNat)
  case atStart => exact ⟨0, by omega, rfl, by have h0 := OwnS.empty (R := RFile) (S := S) (e := 88) w1 w.heap.size (Nat.le_of_eq Hsz.out.symm); rw [Hsz.out] at h0; exact h0, (Below.refl _ _).alloc (Nat.le_refl _) _⟩
  case round =>
    obtain ⟨k, hk, rfl, HO, HE⟩ := hrel
    have c2 := cell_below HE.out C2.out
    by_cases hlt : k < N
    · have hkF : k < F.length := by have := HN.out; omega
      obtain ⟨gb, A1, c1, rfl, hgb, f0, f1, f2, hl1, hl2, hr⟩ := HC.out k hkF
      have hts := crashF_take keep F k hkF
      have hok := H1.out.ok F[k] (List.getElem_mem _)
      obtain ⟨p, hp⟩ : ∃ p, p = F[k] := ⟨_, rfl⟩
      rw [← hp] at f0 f1 f2 hl1 hr hts hok
      obtain ⟨nm, b, s⟩ := p
      simp only at f0 f1 f2 hl1 hr hts hok
      obtain ⟨n, hn⟩ : ∃ n, n = b.length := ⟨_, rfl⟩
      rw [← hn] at f1 hl1 hok
      have hn64 : n ≤ 65536 := hok.1
      have hsn : s ≤ n := hok.2
      obtain ⟨mn, hmn⟩ : ∃ mn, mn = min kp (n - s) := ⟨_, rfl⟩
      obtain ⟨m, hm⟩ : ∃ m, m = s + mn := ⟨_, rfl⟩
      have hc1 : crash1 keep ⟨b, s⟩ = ⟨b.take m, m⟩ := by
        have : crashN keep ⟨b, s⟩ = m := by unfold crashN; rw [hm, hmn, Hkp.out, hn]
        unfold crash1; rw [this]
      rw [hc1] at hts
      have hmin := run_min2 (kp : Int) ((n : Int) - (s : Int)) (mn : Int) (by omega)
      have hmm := hid (show (s : Int) + (mn : Int) = (m : Int) by omega)
      have hmnn : (mn : Int) ≤ (n : Int) - (s : Int) := by omega
      have hmk : m ≤ n := by omega
      have hm64 : (m : Int) ≤ (c1 : Int) := by omega
      have Hts := hid hts
      have Hlm := hid (show (b.take m).length = m by rw [List.length_take]; omega)
      have Hrm := hid (RB.take (RB.below (RK.rv hr) HE.out) m)
      generalize b.take m = X at Hts Hlm Hrm
      have g0 := cell_below HE.out f0
      have g1 := cell_below HE.out f1
      have g2 := cell_below HE.out f2
      have hlt' : (k : Int) < (N : Int) := by omega
      have hk00 : ¬ ((k : Int) < 0) := by omega
      have hwl := HE.out.size
      have hlen : ((crashF keep F).take k).length ≤ 200 := by have := List.length_take_le k (crashF keep F); omega
      clear hts hc1 hr hok hp hm hmn f0 f1 f2 hn
      go_wp2_with fail
      rw [hmm.out]
      have Hbx := hid (heap_alloc_last wr (.cells #[.string (str nm), .slice A1 n c1, .int .i64 (s : Int)] 88))
      have HE2 := hid (show Ext wr (wr.alloc (.cells #[.string (str nm), .slice A1 n c1, .int .i64 (s : Int)] 88)) from (Below.refl _ _).alloc (Nat.le_refl _) _)
      clear hmin hmax
      apply wp_drawn_last 12 [isV _, isV _, isV _, emptyB wr.heap.size, isV _, isV _, isV _, isV _, ownB wr.heap.size X, isV _, filP wr.heap.size nm X (m : Int), boxF wr.heap.size nm X (m : Int)] (by decide) (by kernel_rfl)
      · kernel_rfl
      · kernel_rfl
      · refine ⟨?r7s0, ?r7s1, ?r7s2, ?r7s3, ?r7s4, ?r7s5, ?r7s6, ?r7s7, ?r7s8, ?r7s9, ?r7s10, ?r7s11, trivial⟩
        case r7s0 | r7s1 =>
          intro v W hE hd; simp only [Region.wanted, ↓reduceIte]; (try simp [deps, waitsOn, Region.binds, knowing, isV, ownsV, anyV] at hd); simp only [putAll, List.take_succ_cons, List.take_zero, List.drop_succ_cons, List.drop_zero, Act.put, List.setIfInBounds_toArray, List.set_cons_zero, List.set_cons_succ, Nat.zero_add, Nat.reduceAdd]; go_simp; exact ⟨Below.refl _ _, rfl⟩
        case r7s2 =>
          intro v W hE hd; simp only [Region.wanted, ↓reduceIte]; (try simp [deps, waitsOn, Region.binds, knowing, isV, ownsV, anyV] at hd); simp only [putAll, List.take_succ_cons, List.take_zero, List.drop_succ_cons, List.drop_zero, Act.put, List.setIfInBounds_toArray, List.set_cons_zero, List.set_cons_succ, Nat.zero_add, Nat.reduceAdd]
          have hbk := (hE.block wr.heap.size (by simp)).trans Hbx.out
          have e1 : W.cell? ⟨wr.heap.size, 0, none⟩ = some (.string (str nm)) := by rw [cell_of_row _ _ _ _ _ _ hbk]; rfl
          clear hbk
          go_simp
          exact ⟨Below.refl _ _, rfl⟩
        case r7s3 =>
          intro v W hE hd; simp only [Region.wanted, ↓reduceIte]; (try simp [deps, waitsOn, Region.binds, knowing, isV, ownsV, anyV] at hd); simp only [putAll, List.take_succ_cons, List.take_zero, List.drop_succ_cons, List.drop_zero, Act.put, List.setIfInBounds_toArray, List.set_cons_zero, List.set_cons_succ, Nat.zero_add, Nat.reduceAdd]
          have hz := hE.size
          have hz1 : wr.heap.size + 1 ≤ W.heap.size := by simpa using hz
          go_simp
          exact ⟨(Below.refl _ _).alloc (Nat.le_refl _) _, _, rfl, OB_empty W _ (by omega), by simp; omega⟩
        case r7s4 =>
          intro v W hE hd; simp only [Region.wanted, ↓reduceIte]; (try simp [deps, waitsOn, Region.binds, knowing, isV, ownsV, anyV] at hd); simp only [putAll, List.take_succ_cons, List.take_zero, List.drop_succ_cons, List.drop_zero, Act.put, List.setIfInBounds_toArray, List.set_cons_zero, List.set_cons_succ, Nat.zero_add, Nat.reduceAdd]; go_simp; exact ⟨Below.refl _ _, rfl⟩
        case r7s5 =>
          intro v W hE hd; simp only [Region.wanted, ↓reduceIte]; (try simp [deps, waitsOn, Region.binds, knowing, isV, ownsV, anyV] at hd); simp only [putAll, List.take_succ_cons, List.take_zero, List.drop_succ_cons, List.drop_zero, Act.put, List.setIfInBounds_toArray, List.set_cons_zero, List.set_cons_succ, Nat.zero_add, Nat.reduceAdd]
          have hbk := (hE.block wr.heap.size (by simp)).trans Hbx.out
          have e1 : W.cell? ⟨wr.heap.size, 1, none⟩ = some (.slice A1 n c1) := by rw [cell_of_row _ _ _ _ _ _ hbk]; rfl
          clear hbk
          go_simp
          exact ⟨Below.refl _ _, rfl⟩
        case r7s6 | r7s7 =>
          intro v W hE hd; simp only [Region.wanted, ↓reduceIte]; (try simp [deps, waitsOn, Region.binds, knowing, isV, ownsV, anyV] at hd); simp only [putAll, List.take_succ_cons, List.take_zero, List.drop_succ_cons, List.drop_zero, Act.put, List.setIfInBounds_toArray, List.set_cons_zero, List.set_cons_succ, Nat.zero_add, Nat.reduceAdd]; go_simp; exact ⟨Below.refl _ _, rfl⟩
        case r7s8 =>
          intro v W hE hd; simp only [Region.wanted, ↓reduceIte]; (try simp [deps, waitsOn, Region.binds, knowing, isV, ownsV, anyV] at hd); simp only [putAll, List.take_succ_cons, List.take_zero, List.drop_succ_cons, List.drop_zero, Act.put, List.setIfInBounds_toArray, List.set_cons_zero, List.set_cons_succ, Nat.zero_add, Nat.reduceAdd]
          obtain ⟨⟨ge, e1, h1, h2⟩, e4⟩ := hd
          rw [e1] at h1
          obtain ⟨v', w', hrun, hO', hE'⟩ := run_app_empty h1 h2 Hlm.out.symm (RB.below Hrm.out (Ext.trans' HE2.out hE)) (by omega)
          refine step_app (.tmp 43) (.tmp 47) rfl e1 e4 hrun ?_
          exact ⟨_, rfl, hE', hO', Nat.le_trans h2 hE'.size⟩
        case r7s9 =>
          intro v W hE hd; simp only [Region.wanted, ↓reduceIte]; (try simp [deps, waitsOn, Region.binds, knowing, isV, ownsV, anyV] at hd); simp only [putAll, List.take_succ_cons, List.take_zero, List.drop_succ_cons, List.drop_zero, Act.put, List.setIfInBounds_toArray, List.set_cons_zero, List.set_cons_succ, Nat.zero_add, Nat.reduceAdd]; go_simp; exact ⟨Below.refl _ _, rfl⟩
        case r7s10 =>
          intro v W hE hd; simp only [Region.wanted, ↓reduceIte]; (try simp [deps, waitsOn, Region.binds, knowing, isV, ownsV, anyV] at hd); simp only [putAll, List.take_succ_cons, List.take_zero, List.drop_succ_cons, List.drop_zero, Act.put, List.setIfInBounds_toArray, List.set_cons_zero, List.set_cons_succ, Nat.zero_add, Nat.reduceAdd]
          obtain ⟨e1, ⟨h7, h72⟩, e9⟩ := hd
          obtain ⟨A9, c9, e7, -, -⟩ := OB.read h7
          rw [e7] at h7
          rw [Hlm.out] at e7 h7
          have H7 := hid h7; clear h7
          go_simp
          exact ⟨Below.refl _ _, _, rfl, H7.out, h72⟩
        case r7s11 =>
          intro v W hE hd; simp only [Region.wanted, ↓reduceIte]; (try simp [deps, waitsOn, Region.binds, knowing, isV, ownsV, anyV] at hd); simp only [putAll, List.take_succ_cons, List.take_zero, List.drop_succ_cons, List.drop_zero, Act.put, List.setIfInBounds_toArray, List.set_cons_zero, List.set_cons_succ, Nat.zero_add, Nat.reduceAdd]
          obtain ⟨x, e1, h7, h72⟩ := hd
          have H7 := hid h7; clear h7
          go_simp
          refine ⟨(Below.refl _ _).alloc (Nat.le_refl _) _, _, x, rfl, ?_, h72, ?_⟩
          · exact heap_alloc_last W _
          · exact H7.out.below ((Below.refl _ _).alloc (Nat.le_refl _) _)
      · rintro v W6 hE ⟨e0, -, -, -, -, -, -, -, -, -, -, e11, -⟩
        have e0 := (show v 0 = _ from e0)
        have e11 := (show _ from e11)
        simp only [putAll, List.take_succ_cons, List.take_zero, List.drop_succ_cons, List.drop_zero, Act.put, List.setIfInBounds_toArray, List.set_cons_zero, List.set_cons_succ, Nat.zero_add, Nat.reduceAdd]
        obtain ⟨gx, x, e11, hbx, hgx, hob⟩ := e11
        rw [e0, e11]
        have HEW := hid (Ext.trans' HE2.out hE)
        have HO6 := hid (HO.out.ext HEW.out)
        have HB6 : Hid (Below w.heap.size w1 W6) := hid (by rw [← Hsz.out]; exact HE.out.trans (HEW.out.mono HE.out.size))
        have hsz6 := HEW.out.size
        have HR6 := hid (box_others (S := S) (v := u4) hbx hob (fun k hk => H1.out.fresh k (by omega)) (fun k hk => by obtain ⟨cs, ho, -⟩ := HO.out; exact (World.ownsRow.lt ho k hk).2))
        clear e0 e11 hbx hgx hob hE
        go_wp2_with (at_builtin; refine wpList_appS (w0 := w1) (R := RFile) (xs := (crashF keep F).take k) (base := w.heap.size) finfo rfl (.tmp 40) (.tmp 51) rfl rfl HO6 HB6 (by have := Hsz.out; omega) (some ⟨gx, 0, none⟩) 1 1 [(nm, ⟨X, m⟩)] rfl rfl HR6 (by omega) (by omega) ?_; intro v2 W2 HA2 HB2 _)
        go_roundw
        case rel => exact ⟨k + 1, by omega, by go_num, by rw [Hts.out]; exact HA2, by have h := HB2.out; rw [← Hsz.out] at h; exact h⟩
        case measure => simp [intOf]; omega
    · obtain rfl : k = N := by omega
      have hall := hid (show (crashF keep F).take k = crashF keep F from List.take_of_length_le (by have := HN.out; unfold crashF; simp; omega))
      rw [hall.out] at HO
      have hfz := (World.frozen?_of_block (a := ⟨y, 2, none⟩) (HE.out.block y H1.out.lt)).trans (H1.out.free 2)
      obtain ⟨Ao, co, cso, rfl, -⟩ := HO.out.read
      obtain ⟨L, hL⟩ : ∃ L, L = (crashF keep F).length := ⟨_, rfl⟩
      rw [← hL] at HO ⊢
      clear hL
      go_wp2
      go_end0
      obtain ⟨S', g', h1, h2, h3⟩ := ref_stored3 H1.out (up_crashF keep H1.out.up) (ok_crashF keep H1.out.ok) (by have := H1.out.few; unfold crashF; simpa using this) HE.out HO.out (Nat.le_of_eq Hsz.out)
      exact ⟨rfl, S', g', h1, S1.out.trans h2 (.inl rfl), by have := Hsz.out; omega⟩
end Go.Proofs.YtakebdeldndaaaaGreatDoor
/- The two disks side by side; what `does` does to both. -/
namespace Go.Proofs.YtakebdeldndaaaaGreatDoor
open Go Go.RowKit
set_option linter.unusedSimpArgs false
set_option linter.unusedVariables false
structure ApartD (d m y g : Nat) : Prop where
  dy : d ≠ y
  dg : d ≠ g
  my : m ≠ y
  mg : m ≠ g
structure Two (w : World) (S : Nat → Prop) (d m y g : Nat) (q1 l1 : Int) (F1 : Files) (q2 l2 : Int) (F2 : Files) : Prop where
  disk : DiskIs w S d m q1 l1 F1
  ref : RefIs w S y g q2 l2 F2
  apart : ApartD d m y g
variable {w w' w1 w2 : World} {S S' S1 S2 : Nat → Prop} {d m y g g' g1 : Nat} {q1 l1 q2 l2 l1' l2' : Int} {F1 F2 F1' F2' : Files}
theorem Two.ext (h : Two w S d m y g q1 l1 F1 q2 l2 F2) (hE : Ext w w') : Two w' S d m y g q1 l1 F1 q2 l2 F2 := ⟨h.disk.ext hE, h.ref.ext hE, h.apart⟩
theorem Two.fst (h : Two w S d m y g q1 l1 F1 q2 l2 F2) (hD : DiskIs w' S d m q1 l1' F1') (hK : Kept2 d m w w') : Two w' S d m y g q1 l1' F1' q2 l2 F2 :=
  ⟨hD, h.ref.kept hK (fun _ _ => Iff.rfl) (fun k hk => h.disk.fresh k (Nat.le_trans hK.size hk)) h.disk.own h.disk.ownM (fun e => h.apart.dy e.symm) (fun e => h.apart.my e.symm) (fun e => h.apart.dg e.symm) (fun e => h.apart.mg e.symm), h.apart⟩
theorem Two.snd (h : Two w S d m y g q1 l1 F1 q2 l2 F2) (hR : RefIs w' S' y g' q2 l2' F2') (hS : RStep w w' S S' y g) (hg : g' = g ∨ w.heap.size ≤ g') : Two w' S' d m y g' q1 l1 F1 q2 l2' F2' :=
  ⟨h.disk.beside hS h.ref.own h.ref.ownG h.apart.dy h.apart.dg h.apart.my h.apart.mg, hR, h.apart.dy, by
    have := h.disk.lt
    rcases hg with rfl | hg
    · exact h.apart.dg
    · omega, h.apart.my, by
    have := h.disk.lt
    rcases hg with rfl | hg
    · exact h.apart.mg
    · omega⟩
end Go.Proofs.YtakebdeldndaaaaGreatDoor
