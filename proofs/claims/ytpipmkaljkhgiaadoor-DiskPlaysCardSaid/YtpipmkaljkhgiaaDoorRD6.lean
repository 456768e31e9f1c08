/- The reference's disk: Append. -/
import Derived.Test.YtpipmkaljkhgiaaDoorRD5
import Derived.Test.YtpipmkaljkhgiaaDoorFound
namespace Go.Proofs.YtpipmkaljkhgiaaDoor
open Go Go.RowKit
set_option linter.unusedSimpArgs false
set_option linter.unusedVariables false

def emptyB (base : Nat) : SPred := ⟨fun v w => ∃ g, v = .slice (some ⟨g, 0, none⟩) 0 0 ∧ OB w base v [] ∧ base ≤ w.heap.size, fun _ _ _ ⟨g, e, h1, h2⟩ hE => ⟨g, e, h1.below hE, Nat.le_trans h2 hE.size⟩⟩
def ownB (base : Nat) (bs : List UInt8) : SPred := ⟨fun v w => OB w base v bs ∧ base ≤ w.heap.size, fun _ _ _ h hE => ⟨h.1.below hE, Nat.le_trans h.2 hE.size⟩⟩
theorem bvs_rows {w : World} {K : Nat → Prop} {A : Option Addr} {bs : List UInt8} (h : RB w A bs) : ∃ cs, Rows Rep.u8 w K bs cs ∧ RV w A cs := ⟨bvs bs, rows_u8 bs, h⟩
theorem OB.toK {w : World} {base : Nat} {v : Value} {bs : List UInt8} (h : OB w base v bs) : OwnK Rep.u8 5 (fun _ => False) w base v bs := ⟨bvs bs, h, rows_u8 bs⟩
theorem OB.ofK {w : World} {base : Nat} {v : Value} {bs : List UInt8} (h : OwnK Rep.u8 5 (fun _ => False) w base v bs) : OB w base v bs := by
  obtain ⟨cs, ho, hr⟩ := h
  rw [rows_u8_eq hr] at ho
  exact ho
/-- append of bytes onto an empty literal, as a step. -/
theorem run_app_empty {w : World} {base g : Nat} (hO : OB w base (.slice (some ⟨g, 0, none⟩) 0 0) []) (hb : base ≤ w.heap.size) {A : Option Addr} {n c : Nat} {bs : List UInt8} (hn : n = bs.length) (hr : RB w A bs) (hm : n ≤ 1000000) :
    ∃ v' w', (Builtin.append_ #[22, 22] 22 #[.slice (some ⟨g, 0, none⟩) 0 0, .slice A n c]).run Tryd.prog w = .ok v' w' ∧ OB w' base v' bs ∧ Ext w w' := by
  obtain ⟨v', w', h1, h2, h3⟩ := run_app_fullK (P := Tryd.prog) (R := Rep.u8) u8info 22 g 0 rfl hO.toK hb (fun _ h => h.elim) A c n bs hn (bvs_rows hr) (by omega) (by omega)
  exact ⟨v', w', h1, OB.ofK h2, h3⟩
/-- append of bytes onto bytes of one's own, as a step. -/
theorem run_appB {w w0 : World} {base : Nat} {v : Value} {xs : List UInt8} (hO : OB w base v xs) (hB : Below base w0 w) (hb : base ≤ w.heap.size) {A : Option Addr} {n c : Nat} {bs : List UInt8} (hn : n = bs.length) (hr : RB w A bs) (hm : xs.length + n ≤ 1000000) :
    ∃ v' w', (Builtin.append_ #[22, 22] 22 #[v, .slice A n c]).run Tryd.prog w = .ok v' w' ∧ OB w' base v' (xs ++ bs) ∧ Below base w0 w' := by
  obtain ⟨v', w', h1, h2, h3, -⟩ := run_appK (P := Tryd.prog) (R := Rep.u8) u8info 22 hO.toK hb (fun _ h => h.elim) A c n bs hn (bvs_rows hr) (by omega) (by omega)
  refine ⟨v', w', h1, OB.ofK h2, hB.grown h3 hb fun k hk => own_base hO k hk⟩
theorem put_ref' {w : World} {S : Nat → Prop} {y g : Nat} {q l : Int} {F : Files} (h : RefIs w S y g q l F) (nm b : List UInt8) (sf : Nat) (A : Option Addr) (L c : Nat) (z : Int) (hL : L = b.length) (hz : z = (sf : Int)) (hrel : RFile.rel w (Imm w S) (nm, ⟨b, sf⟩) [strV nm, .slice A L c, .int .i64 z])
    (hok : b.length ≤ 65536 ∧ sf ≤ b.length) (hfew : F.length < 200 ∨ ∃ f0, atF F nm = some f0) :
    Calls Tryd.prog 54 #[.pointer (some ⟨y, 0, none⟩), .agg #[.string (str nm), .slice A L c, .int .i64 z]] w fun e w' => e = .returned (.tuple #[]) ∧ ∃ S' g', RefIs w' S' y g' q l (putF nm ⟨b, sf⟩ F) ∧ RStep w w' S S' y g ∧ (g' = g ∨ w.heap.size ≤ g') := by
  subst hL; subst hz
  exact put_ref h (nm, ⟨b, sf⟩) A c hrel hok hfew
/-- What a call of put needs of a file whose bytes are one's own. -/
theorem own_file {w w0 : World} {S : Nat → Prop} {v : Value} {nm bs : List UInt8} {sf : Nat} (h : OB w w0.heap.size v bs) (hS : ∀ k, w0.heap.size ≤ k → ¬ S k) :
    ∃ A c, v = .slice A bs.length c ∧ RFile.rel w (Imm w S) (nm, ⟨bs, sf⟩) [strV nm, .slice A bs.length c, .int .i64 (sf : Int)] := by
  obtain ⟨A, c, e, hc, hr⟩ := OB.read h
  have hm : c ≤ 9223372036854775807 := by
    rcases h.2 with ⟨h1, h2⟩ | ⟨g, cap, cur, h1, _, _, _, hm, _⟩
    · rw [h1] at e; simp only [Value.slice.injEq] at e; omega
    · rw [h1] at e; simp only [Value.slice.injEq] at e; simp only [maxLen] at hm; omega
  refine ⟨A, c, e, rfile_mk (p := (nm, ⟨bs, sf⟩)) hc hm (RK.of_rv hr fun b o e' hlt => ⟨hlt, hS b ?_⟩)⟩
  rw [e] at h
  exact own_base h b (by rw [e']; rfl)
/-- A file's struct over bytes of one's own. -/
def filP (base : Nat) (nm bs : List UInt8) (sf : Int) : SPred := ⟨fun v w => ∃ x, v = .agg #[.string (str nm), x, .int .i64 sf] ∧ OB w base x bs ∧ base ≤ w.heap.size, fun _ _ _ ⟨x, h1, h2, h3⟩ hE => ⟨x, h1, h2.below hE, Nat.le_trans h3 hE.size⟩⟩
/-- The file that Append begins with. -/
theorem old_are (F : Files) (nm : List UInt8) : (idxI F nm = -1 ∧ atF F nm = none ∧ oldF F nm = ⟨[], 0⟩) ∨ ∃ (k : Nat) (hk : k < F.length), idxI F nm = (k : Int) ∧ F[k]'hk = (nm, oldF F nm) ∧ atF F nm = some (oldF F nm) := by
  rcases idx_cases F nm with ⟨h1, h2⟩ | ⟨k, hk, f, h1, h2, h3⟩
  · exact .inl ⟨h2, h1, by unfold oldF; rw [h1]; rfl⟩
  · exact .inr ⟨k, hk, h2, by rw [h3]; unfold oldF; rw [h1]; rfl, by unfold oldF; rw [h1]; rfl⟩
set_option maxRecDepth 100000 in
set_option maxHeartbeats 4000000 in
theorem append_ref {w : World} {S : Nat → Prop} {y g : Nat} {q l : Int} {F : Files} (h : RefIs w S y g q l F) (nm : List UInt8) (hn : nm.length ≤ 9223372036854775807) (A : Option Addr) (n c : Nat) (bs : List UInt8) (hnb : n = bs.length) (hn1 : n ≤ 100000) (hA : RS w S A bs) :
    Calls Tryd.prog 44 #[.pointer (some ⟨y, 0, none⟩), .string (str nm), .slice A n c] w fun e w' => e = .returned (.int .i64 (appE q l F nm bs)) ∧ ∃ S' g', RefIs w' S' y g' q (burnL l) (appF q l F nm bs) ∧ RStep w w' S S' y g ∧ (g' = g ∨ w.heap.size ≤ g') := by
  have H := hid h
  have Hn := hid hnb
  have HA := hid hA
  clear h hnb hA
  go_enter Tryd.func44, Tryd.ntmps44
  go_wp2_with fail
  refine (burn_ref H.out).mono ?_
  rintro e w1 ⟨rfl, hR, hS⟩
  have H1 := hid hR; have S1 := hid hS
  have HA1 := hid (RS.kept HA.out hS.kept H.out.own H.out.ownG)
  clear hR hS HA
  by_cases h0 : l = 0
  · rw [decide_eq_true h0]
    have e3 := hid (show appE q l F nm bs = 14 by unfold appE; rw [if_pos h0])
    have e4 := hid (show appF q l F nm bs = F by unfold appF; rw [e3.out]; rfl)
    go_wp2
    go_ret
    exact ⟨by rw [e3.out]; rfl, S, g, by rw [e4.out]; exact H1.out, S1.out, .inl rfl⟩
  rw [decide_eq_false h0]
  go_wp2_with fail
  refine (refMay_at nm _ hn).mono ?_
  rintro e w' ⟨rfl, rfl⟩
  cases hmay : mayB nm
  · have e3 := hid (show appE q l F nm bs = 5 by unfold appE; rw [if_neg h0, if_pos hmay])
    have e4 := hid (show appF q l F nm bs = F by unfold appF; rw [e3.out]; rfl)
    clear hmay
    go_wp2
    go_ret
    exact ⟨by rw [e3.out]; rfl, S, g, by rw [e4.out]; exact H1.out, S1.out, .inl rfl⟩
  have Hmay := hid hmay; clear hmay
  go_wp2_with fail
  refine (at_ref H1.out nm).mono ?_
  rintro e w' ⟨rfl, rfl⟩
  obtain ⟨A0, c0, c2, hc, hcm, hcell⟩ := H1.out.reads
  have hfew := H1.out.few
  have Hok := hid H1.out.ok
  obtain ⟨N, hN⟩ : ∃ N, N = F.length := ⟨_, rfl⟩
  rw [← hN] at c2 hfew hc
  have HN := hid hN
  have hylt := H1.out.lt
  obtain ⟨b0, hb0⟩ : ∃ b0, b0 = (oldF F nm).b := ⟨_, rfl⟩
  obtain ⟨sf, hsf⟩ : ∃ sf, sf = (oldF F nm).safe := ⟨_, rfl⟩
  have Hold := hid (show oldF F nm = ⟨b0, sf⟩ by rw [hb0, hsf])
  clear hb0 hsf hN
  rcases old_are F nm with ⟨hi, hat, ho⟩ | ⟨k, hk, hi, hFk, hat⟩
  · rw [hi]
    have hbs0 : b0 = [] ∧ sf = 0 := by rw [Hold.out] at ho; simp only [File.mk.injEq] at ho; exact ho
    obtain ⟨hb0, rfl⟩ := hbs0
    have Hat := hid hat
    have Hr0 : Hid (RB w1 none b0) := by rw [hb0]; exact .inl rfl
    have hn0 : Hid (0 = b0.length) := by rw [hb0]; rfl
    clear hb0
    clear hi hat ho hcell
    by_cases hbig : 65536 < 0 + n ∨ 200 ≤ N
    · have e3 := hid (show appE q l F nm bs = 3 by unfold appE; rw [if_neg h0, if_neg (by rw [Hmay.out]; decide), Hold.out]; exact if_pos (by rw [← Hn.out]; show 65536 < List.length b0 + n ∨ _; rw [← hn0.out]; exact hbig.imp id fun h => (by first | exact ⟨Hat.out, by rw [← HN.out]; exact h⟩ | exact h.elim)))
      have e4 := hid (show appF q l F nm bs = F by unfold appF; rw [e3.out]; rfl)
      by_cases hb1 : (65536 : Int) < ((0 : Nat) : Int) + (n : Int)
      · clear hbig
        go_wp2
        go_ret
        exact ⟨by rw [e3.out]; rfl, S, g, by rw [e4.out]; exact H1.out.ext (by first | exact Below.refl _ _ | exact (Below.refl _ _).alloc (Nat.le_refl _) _ | exact ((Below.refl _ _).alloc (Nat.le_refl _) _).alloc (by simp) _), S1.out.trans (RStep.of_ext (by first | exact Below.refl _ _ | exact (Below.refl _ _).alloc (Nat.le_refl _) _ | exact ((Below.refl _ _).alloc (Nat.le_refl _) _).alloc (by simp) _) H1.out.fresh) (.inl rfl), .inl rfl⟩
      · first
        | (exfalso; rcases hbig with hbig | hbig; (· omega); (· exact hbig))
        | (have hs1 : (200 : Int) ≤ (N : Int) := by omega
           clear hbig
           go_wp2
           go_ret
           exact ⟨by rw [e3.out]; rfl, S, g, by rw [e4.out]; exact H1.out.ext (by first | exact Below.refl _ _ | exact (Below.refl _ _).alloc (Nat.le_refl _) _ | exact ((Below.refl _ _).alloc (Nat.le_refl _) _).alloc (by simp) _), S1.out.trans (RStep.of_ext (by first | exact Below.refl _ _ | exact (Below.refl _ _).alloc (Nat.le_refl _) _ | exact ((Below.refl _ _).alloc (Nat.le_refl _) _).alloc (by simp) _) H1.out.fresh) (.inl rfl), .inl rfl⟩)
    have hlc : Hid (0 + n ≤ 65536) := by unfold Hid; omega
    have hb1 : ¬ ((65536 : Int) < ((0 : Nat) : Int) + (n : Int)) := by omega
    have hb2 : ¬ ((200 : Int) ≤ (N : Int)) := by first | trivial | omega
    have hsf : 0 ≤ 0 := by first | exact hok.2 | omega
    have huu := usedF_ok Hok.out
    clear hbig
    have HEb := hid (show Ext w1 (w1.alloc (.cells #[.string (str nm), .slice none 0 0, .int .i64 ((0 : Nat) : Int)] 75)) from (Below.refl _ _).alloc (Nat.le_refl _) _)
    have Hbx := hid (heap_alloc_last w1 (.cells #[.string (str nm), .slice none 0 0, .int .i64 ((0 : Nat) : Int)] 75))
    go_wp2_with fail
    apply wp_drawn [isV _, isV _, isV _, isV _, isV _, isV _, isV _, isV _, isV _, isV _] (by kernel_rfl)
    · kernel_rfl
    · refine ⟨?ups0, ?ups1, ?ups2, ?ups3, ?ups4, ?ups5, ?ups6, ?ups7, ?ups8, ?ups9, trivial⟩
      case ups0 =>
        intro v W hE hd; simp only [Region.wanted, ↓reduceIte]; (try simp [deps, waitsOn, Region.binds, knowing, isV, ownsV, anyV] at hd); simp only [putAll, List.take_succ_cons, List.take_zero, List.drop_succ_cons, List.drop_zero, Act.put, List.setIfInBounds_toArray, List.set_cons_zero, List.set_cons_succ, Nat.zero_add, Nat.reduceAdd]; go_simp; exact ⟨Below.refl _ _, rfl⟩
      case ups1 =>
        intro v W hE hd; simp only [Region.wanted, ↓reduceIte]; (try simp [deps, waitsOn, Region.binds, knowing, isV, ownsV, anyV] at hd); simp only [putAll, List.take_succ_cons, List.take_zero, List.drop_succ_cons, List.drop_zero, Act.put, List.setIfInBounds_toArray, List.set_cons_zero, List.set_cons_succ, Nat.zero_add, Nat.reduceAdd]
        go_simp
        refine (used_ref ((H1.out.ext HEb.out).ext hE)).mono ?_
        rintro e w' ⟨rfl, rfl⟩
        go_simp
        exact ⟨Below.refl _ _, rfl⟩
      case ups2 =>
        intro v W hE hd; simp only [Region.wanted, ↓reduceIte]; (try simp [deps, waitsOn, Region.binds, knowing, isV, ownsV, anyV] at hd); simp only [putAll, List.take_succ_cons, List.take_zero, List.drop_succ_cons, List.drop_zero, Act.put, List.setIfInBounds_toArray, List.set_cons_zero, List.set_cons_succ, Nat.zero_add, Nat.reduceAdd]; go_simp; exact ⟨Below.refl _ _, rfl⟩
      case ups3 =>
        intro v W hE hd; simp only [Region.wanted, ↓reduceIte]; (try simp [deps, waitsOn, Region.binds, knowing, isV, ownsV, anyV] at hd); simp only [putAll, List.take_succ_cons, List.take_zero, List.drop_succ_cons, List.drop_zero, Act.put, List.setIfInBounds_toArray, List.set_cons_zero, List.set_cons_succ, Nat.zero_add, Nat.reduceAdd]; go_simp; exact ⟨Below.refl _ _, rfl⟩
      case ups4 =>
        intro v W hE hd; simp only [Region.wanted, ↓reduceIte]; (try simp [deps, waitsOn, Region.binds, knowing, isV, ownsV, anyV] at hd); simp only [putAll, List.take_succ_cons, List.take_zero, List.drop_succ_cons, List.drop_zero, Act.put, List.setIfInBounds_toArray, List.set_cons_zero, List.set_cons_succ, Nat.zero_add, Nat.reduceAdd]
        have e1 := hid (show IntKind.i64.wrap ((usedF F : Int) + (n : Int)) = (usedF F : Int) + (n : Int) by rw [IntKind.wrap_i64]; have := HN.out; omega)
        go_simp
        rw [e1.out]
        exact ⟨Below.refl _ _, rfl⟩
      case ups5 =>
        intro v W hE hd; simp only [Region.wanted, ↓reduceIte]; (try simp [deps, waitsOn, Region.binds, knowing, isV, ownsV, anyV] at hd); simp only [putAll, List.take_succ_cons, List.take_zero, List.drop_succ_cons, List.drop_zero, Act.put, List.setIfInBounds_toArray, List.set_cons_zero, List.set_cons_succ, Nat.zero_add, Nat.reduceAdd]; go_simp; exact ⟨Below.refl _ _, rfl⟩
      case ups6 =>
        intro v W hE hd; simp only [Region.wanted, ↓reduceIte]; (try simp [deps, waitsOn, Region.binds, knowing, isV, ownsV, anyV] at hd); simp only [putAll, List.take_succ_cons, List.take_zero, List.drop_succ_cons, List.drop_zero, Act.put, List.setIfInBounds_toArray, List.set_cons_zero, List.set_cons_succ, Nat.zero_add, Nat.reduceAdd]; go_simp; exact ⟨Below.refl _ _, rfl⟩
      case ups7 =>
        intro v W hE hd; simp only [Region.wanted, ↓reduceIte]; (try simp [deps, waitsOn, Region.binds, knowing, isV, ownsV, anyV] at hd); simp only [putAll, List.take_succ_cons, List.take_zero, List.drop_succ_cons, List.drop_zero, Act.put, List.setIfInBounds_toArray, List.set_cons_zero, List.set_cons_succ, Nat.zero_add, Nat.reduceAdd]; go_simp; exact ⟨Below.refl _ _, rfl⟩
      case ups8 =>
        intro v W hE hd; simp only [Region.wanted, ↓reduceIte]; (try simp [deps, waitsOn, Region.binds, knowing, isV, ownsV, anyV] at hd); simp only [putAll, List.take_succ_cons, List.take_zero, List.drop_succ_cons, List.drop_zero, Act.put, List.setIfInBounds_toArray, List.set_cons_zero, List.set_cons_succ, Nat.zero_add, Nat.reduceAdd]
        have e1 := cell_below (Ext.trans' HEb.out hE) H1.out.quota
        go_simp
        exact ⟨Below.refl _ _, rfl⟩
      case ups9 =>
        intro v W hE hd; simp only [Region.wanted, ↓reduceIte]; (try simp [deps, waitsOn, Region.binds, knowing, isV, ownsV, anyV] at hd); simp only [putAll, List.take_succ_cons, List.take_zero, List.drop_succ_cons, List.drop_zero, Act.put, List.setIfInBounds_toArray, List.set_cons_zero, List.set_cons_succ, Nat.zero_add, Nat.reduceAdd]; go_simp; exact ⟨Below.refl _ _, rfl⟩
    · rintro v W5 hE ⟨-, -, -, -, -, -, -, -, -, e9, -⟩
      have e9 := (show v 9 = _ from e9)
      simp only [putAll, List.take_succ_cons, List.take_zero, List.drop_succ_cons, List.drop_zero, Act.put, List.setIfInBounds_toArray, List.set_cons_zero, List.set_cons_succ, Nat.zero_add, Nat.reduceAdd]
      rw [e9]
      have HE5 := hid (Ext.trans' HEb.out hE)
      have hbk := (hE.block w1.heap.size (by simp)).trans Hbx.out
      have Hf1 := hid (show W5.cell? ⟨w1.heap.size, 1, none⟩ = some (.slice none 0 0) by rw [cell_of_row _ _ _ _ _ _ hbk]; rfl)
      have Hf2 := hid (show W5.cell? ⟨w1.heap.size, 2, none⟩ = some (.int .i64 ((0 : Nat) : Int)) by rw [cell_of_row _ _ _ _ _ _ hbk]; rfl)
      clear hE e9 hbk
      by_cases hsp : q < (usedF F : Int) + (n : Int)
      · rw [decide_eq_true hsp]
        have e3 := hid (show appE q l F nm bs = 10 by unfold appE; rw [if_neg h0, if_neg (by rw [Hmay.out]; decide), if_neg (by rw [Hold.out, ← Hn.out]; show ¬ (65536 < List.length b0 + n ∨ _); rw [← hn0.out]; have := hlc.out; have := HN.out; rintro (h | h) <;> first | omega | (rw [Hat.out] at h; exact absurd h.1 (by simp))), if_pos (by rw [← Hn.out]; exact hsp)])
        have e4 := hid (show appF q l F nm bs = F by unfold appF; rw [e3.out]; rfl)
        clear hsp
        go_wp2
        go_ret
        exact ⟨by rw [e3.out]; rfl, S, g, by rw [e4.out]; exact H1.out.ext HE5.out, S1.out.trans (RStep.of_ext HE5.out H1.out.fresh) (.inl rfl), .inl rfl⟩
      rw [decide_eq_false hsp]
      have E3 := hid (show appE q l F nm bs = 0 by unfold appE; rw [if_neg h0, if_neg (by rw [Hmay.out]; decide), if_neg (by rw [Hold.out, ← Hn.out]; show ¬ (65536 < List.length b0 + n ∨ _); rw [← hn0.out]; have := hlc.out; have := HN.out; rintro (h | h) <;> first | omega | (rw [Hat.out] at h; exact absurd h.1 (by simp))), if_neg (by rw [← Hn.out]; exact hsp)])
      have E4 := hid (show appF q l F nm bs = putF nm ⟨b0 ++ bs, 0⟩ F by unfold appF; rw [E3.out, Hold.out]; rfl)
      have Hr05 := hid (Hr0.out.below HE5.out)
      have HA5 := hid (RB.below (RK.rv HA1.out) HE5.out)
      clear hsp
      go_wp2_with fail
      apply wp_drawn_w 11 7 [0, 0, 1, 0, 0, 1, 0, 2, 0, 0, 2] [isV _, isV _, emptyB W5.heap.size, isV _, isV _, ownB W5.heap.size b0, isV _, ownB W5.heap.size (b0 ++ bs), isV _, isV _, filP W5.heap.size nm (b0 ++ bs) ((0 : Nat) : Int)] (by decide) (by decide) (by kernel_rfl)
      · kernel_rfl
      · kernel_rfl
      · kernel_rfl
      · refine ⟨?pps0, ?pps1, ?pps2, ?pps3, ?pps4, ?pps5, ?pps6, ?pps7, ?pps8, ?pps9, ?pps10, trivial⟩
        case pps0 =>
          intro v W hE hd; simp only [Region.wanted, ↓reduceIte]; (try simp [deps, waitsOn, Region.binds, knowing, isV, ownsV, anyV] at hd); simp only [putAll, List.take_succ_cons, List.take_zero, List.drop_succ_cons, List.drop_zero, Act.put, List.setIfInBounds_toArray, List.set_cons_zero, List.set_cons_succ, Nat.zero_add, Nat.reduceAdd]; go_simp; exact ⟨Below.refl _ _, rfl⟩
        case pps1 =>
          intro v W hE hd; simp only [Region.wanted, ↓reduceIte]; (try simp [deps, waitsOn, Region.binds, knowing, isV, ownsV, anyV] at hd); simp only [putAll, List.take_succ_cons, List.take_zero, List.drop_succ_cons, List.drop_zero, Act.put, List.setIfInBounds_toArray, List.set_cons_zero, List.set_cons_succ, Nat.zero_add, Nat.reduceAdd]; go_simp; exact ⟨Below.refl _ _, rfl⟩
        case pps2 =>
          intro v W hE hd; simp only [Region.wanted, ↓reduceIte]; (try simp [deps, waitsOn, Region.binds, knowing, isV, ownsV, anyV] at hd); simp only [putAll, List.take_succ_cons, List.take_zero, List.drop_succ_cons, List.drop_zero, Act.put, List.setIfInBounds_toArray, List.set_cons_zero, List.set_cons_succ, Nat.zero_add, Nat.reduceAdd]
          go_simp
          exact ⟨(Below.refl _ _).alloc (Nat.le_refl _) _, _, rfl, OB_empty W _ hE.size, by have := hE.size; simp; omega⟩
        case pps3 =>
          intro v W hE hd; simp only [Region.wanted, ↓reduceIte]; (try simp [deps, waitsOn, Region.binds, knowing, isV, ownsV, anyV] at hd); simp only [putAll, List.take_succ_cons, List.take_zero, List.drop_succ_cons, List.drop_zero, Act.put, List.setIfInBounds_toArray, List.set_cons_zero, List.set_cons_succ, Nat.zero_add, Nat.reduceAdd]; go_simp; exact ⟨Below.refl _ _, rfl⟩
        case pps4 =>
          intro v W hE hd; simp only [Region.wanted, ↓reduceIte]; (try simp [deps, waitsOn, Region.binds, knowing, isV, ownsV, anyV] at hd); simp only [putAll, List.take_succ_cons, List.take_zero, List.drop_succ_cons, List.drop_zero, Act.put, List.setIfInBounds_toArray, List.set_cons_zero, List.set_cons_succ, Nat.zero_add, Nat.reduceAdd]
          have e1 := cell_below hE Hf1.out
          go_simp
          exact ⟨Below.refl _ _, rfl⟩
        case pps5 =>
          intro v W hE hd; simp only [Region.wanted, ↓reduceIte]; (try simp [deps, waitsOn, Region.binds, knowing, isV, ownsV, anyV] at hd); simp only [putAll, List.take_succ_cons, List.take_zero, List.drop_succ_cons, List.drop_zero, Act.put, List.setIfInBounds_toArray, List.set_cons_zero, List.set_cons_succ, Nat.zero_add, Nat.reduceAdd]
          obtain ⟨⟨ge, e1, h1, h2⟩, e4⟩ := hd
          rw [e1] at h1
          obtain ⟨v', w', hrun, hO', hE'⟩ := run_app_empty h1 h2 hn0.out (Hr05.out.below hE) (by have := hlc.out; omega)
          refine step_app (.tmp 63) (.tmp 65) rfl e1 e4 hrun ?_
          exact ⟨_, rfl, hE', hO', Nat.le_trans h2 hE'.size⟩
        case pps6 =>
          intro v W hE hd; simp only [Region.wanted, ↓reduceIte]; (try simp [deps, waitsOn, Region.binds, knowing, isV, ownsV, anyV] at hd); simp only [putAll, List.take_succ_cons, List.take_zero, List.drop_succ_cons, List.drop_zero, Act.put, List.setIfInBounds_toArray, List.set_cons_zero, List.set_cons_succ, Nat.zero_add, Nat.reduceAdd]; go_simp; exact ⟨Below.refl _ _, rfl⟩
        case pps7 =>
          intro v W hE hd; simp only [Region.wanted, ↓reduceIte]; (try simp [deps, waitsOn, Region.binds, knowing, isV, ownsV, anyV] at hd); simp only [putAll, List.take_succ_cons, List.take_zero, List.drop_succ_cons, List.drop_zero, Act.put, List.setIfInBounds_toArray, List.set_cons_zero, List.set_cons_succ, Nat.zero_add, Nat.reduceAdd]
          obtain ⟨⟨h1, h2⟩, e6, -⟩ := hd
          obtain ⟨v', w', hrun, hO', hB'⟩ := run_appB (w0 := W5) h1 hE h2 Hn.out (HA5.out.below hE) (by have := hlc.out; have := hn0.out; omega)
          refine step_app (.tmp 66) (.tmp 67) rfl rfl e6 hrun ?_
          exact ⟨_, rfl, hB', hO', hB'.size⟩
        case pps8 =>
          intro v W hE hd; simp only [Region.wanted, ↓reduceIte]; (try simp [deps, waitsOn, Region.binds, knowing, isV, ownsV, anyV] at hd); simp only [putAll, List.take_succ_cons, List.take_zero, List.drop_succ_cons, List.drop_zero, Act.put, List.setIfInBounds_toArray, List.set_cons_zero, List.set_cons_succ, Nat.zero_add, Nat.reduceAdd]; go_simp; exact ⟨Below.refl _ _, rfl⟩
        case pps9 =>
          intro v W hE hd; simp only [Region.wanted, ↓reduceIte]; (try simp [deps, waitsOn, Region.binds, knowing, isV, ownsV, anyV] at hd); simp only [putAll, List.take_succ_cons, List.take_zero, List.drop_succ_cons, List.drop_zero, Act.put, List.setIfInBounds_toArray, List.set_cons_zero, List.set_cons_succ, Nat.zero_add, Nat.reduceAdd]
          have e1 := cell_below hE Hf2.out
          go_simp
          exact ⟨Below.refl _ _, rfl⟩
        case pps10 =>
          intro v W hE hd; simp only [Region.wanted, ↓reduceIte]; (try simp [deps, waitsOn, Region.binds, knowing, isV, ownsV, anyV] at hd); simp only [putAll, List.take_succ_cons, List.take_zero, List.drop_succ_cons, List.drop_zero, Act.put, List.setIfInBounds_toArray, List.set_cons_zero, List.set_cons_succ, Nat.zero_add, Nat.reduceAdd]
          obtain ⟨e1, ⟨h7, h72⟩, e9⟩ := hd
          obtain ⟨A9, c9, e7, -, -⟩ := OB.read h7
          rw [e7] at h7
          obtain ⟨k9, hk9⟩ : ∃ k9, k9 = (b0 ++ bs).length := ⟨_, rfl⟩
          rw [← hk9] at e7 h7
          have H7 := hid h7; clear h7 hk9
          go_simp
          exact ⟨Below.refl _ _, _, rfl, H7.out, h72⟩
      · intro i hk v w1 w2 h
        match i, hk, h with
        | 0, _, h => exact h
        | 1, _, h => exact h
        | 2, hk, _ => exact absurd hk (by decide)
        | 3, _, h => exact h
        | 4, _, h => exact h
        | 5, hk, _ => exact absurd hk (by decide)
        | 6, _, h => exact h
        | 7, hk, _ => exact absurd hk (by decide)
        | 8, _, h => exact h
        | 9, _, h => exact h
        | 10, hk, _ => exact absurd hk (by decide)
        | _ + 11, _, h => exact h
      · rintro v W6 hE ⟨e0, -, -, -, -, -, -, -, -, -, e10, -⟩
        have e0 := (show v 0 = _ from e0 (by decide))
        have e10 := (show _ from e10 (by decide))
        simp only [putAll, List.take_succ_cons, List.take_zero, List.drop_succ_cons, List.drop_zero, Act.put, List.setIfInBounds_toArray, List.set_cons_zero, List.set_cons_succ, Nat.zero_add, Nat.reduceAdd]
        obtain ⟨x, e10, hO, hsz⟩ := e10
        obtain ⟨Ax, cx, ex, hrel⟩ := own_file (S := S) (nm := nm) (sf := 0) hO (fun k hk => H1.out.fresh k (Nat.le_trans HE5.out.size hk))
        obtain ⟨L, hL⟩ : ∃ L, L = (b0 ++ bs).length := ⟨_, rfl⟩
        rw [← hL] at ex hrel
        subst ex
        obtain ⟨z, hz⟩ : ∃ z, z = ((0 : Nat) : Int) := ⟨_, rfl⟩
        rw [← hz] at e10 hrel
        have HL := hid hL; have Hz := hid hz
        clear hL hz
        rw [e0, e10]
        have HE6 := hid (Ext.trans' HE5.out hE)
        have Hrel := hid hrel
        clear e0 e10 hO hE hrel
        go_wp2_with fail
        refine (put_ref' (H1.out.ext HE6.out) nm (b0 ++ bs) 0 Ax L cx z HL.out Hz.out Hrel.out (show (b0 ++ bs).length ≤ 65536 ∧ 0 ≤ (b0 ++ bs).length by have := hlc.out; have := hn0.out; have := Hn.out; rw [List.length_append]; omega) (by first | exact .inr ⟨_, Hat.out⟩ | exact .inl (by have := HN.out; omega))).mono ?_
        rintro e w7 ⟨rfl, S', g', hR, hS, hg⟩
        have HR := hid hR; have HS := hid hS; have hg6 := hid hg
        clear hR hS hg
        go_wp2
        go_ret
        have hsz6 := HE6.out.size
        have hsz1 := S1.out.kept.size
        exact ⟨by rw [E3.out]; rfl, S', g', by rw [E4.out]; exact HR.out, (S1.out.trans (RStep.of_ext HE6.out H1.out.fresh) (.inl rfl)).trans HS.out (.inl rfl), hg6.out.imp id fun h => by omega⟩
  · rw [hi]
    have Hat := hid hat
    obtain ⟨gb, A1, c1, rfl, hgb, f0, f1, f2, hl1, hl2, hr⟩ := hcell k hk
    rw [hFk, Hold.out] at f0 f1 f2 hl1 hr
    have hok := Hok.out F[k] (List.getElem_mem _)
    rw [hFk, Hold.out] at hok
    obtain ⟨n0, hn0'⟩ : ∃ n0, n0 = b0.length := ⟨_, rfl⟩
    rw [← hn0'] at f1 hl1 hok
    have hn0 := hid hn0'
    have Hr0 := hid (RK.rv hr)
    have hkN : (k : Int) < (N : Int) := by have := HN.out; omega
    have hk0 : ¬ ((k : Int) < 0) := by omega
    have hk00 : (0 : Int) ≤ (k : Int) := by omega
    clear hi hat hcell hr hFk hn0'
    by_cases hbig : 65536 < n0 + n ∨ False
    · have e3 := hid (show appE q l F nm bs = 3 by unfold appE; rw [if_neg h0, if_neg (by rw [Hmay.out]; decide), Hold.out]; exact if_pos (by rw [← Hn.out]; show 65536 < List.length b0 + n ∨ _; rw [← hn0.out]; exact hbig.imp id fun h => (by first | exact ⟨Hat.out, by rw [← HN.out]; exact h⟩ | exact h.elim)))
      have e4 := hid (show appF q l F nm bs = F by unfold appF; rw [e3.out]; rfl)
      by_cases hb1 : (65536 : Int) < ((n0 : Nat) : Int) + (n : Int)
      · clear hbig
        go_wp2
        go_ret
        exact ⟨by rw [e3.out]; rfl, S, g, by rw [e4.out]; exact H1.out.ext (by first | exact Below.refl _ _ | exact (Below.refl _ _).alloc (Nat.le_refl _) _ | exact ((Below.refl _ _).alloc (Nat.le_refl _) _).alloc (by simp) _), S1.out.trans (RStep.of_ext (by first | exact Below.refl _ _ | exact (Below.refl _ _).alloc (Nat.le_refl _) _ | exact ((Below.refl _ _).alloc (Nat.le_refl _) _).alloc (by simp) _) H1.out.fresh) (.inl rfl), .inl rfl⟩
      · first
        | (exfalso; rcases hbig with hbig | hbig; (· omega); (· exact hbig))
        | (have hs1 : (200 : Int) ≤ (N : Int) := by omega
           clear hbig
           go_wp2
           go_ret
           exact ⟨by rw [e3.out]; rfl, S, g, by rw [e4.out]; exact H1.out.ext (by first | exact Below.refl _ _ | exact (Below.refl _ _).alloc (Nat.le_refl _) _ | exact ((Below.refl _ _).alloc (Nat.le_refl _) _).alloc (by simp) _), S1.out.trans (RStep.of_ext (by first | exact Below.refl _ _ | exact (Below.refl _ _).alloc (Nat.le_refl _) _ | exact ((Below.refl _ _).alloc (Nat.le_refl _) _).alloc (by simp) _) H1.out.fresh) (.inl rfl), .inl rfl⟩)
    have hlc : Hid (n0 + n ≤ 65536) := by unfold Hid; omega
    have hb1 : ¬ ((65536 : Int) < ((n0 : Nat) : Int) + (n : Int)) := by omega
    have hb2 : True := by first | trivial | omega
    have hsf : sf ≤ n0 := by first | exact hok.2 | omega
    have huu := usedF_ok Hok.out
    clear hbig
    have HEb := hid (show Ext w1 (w1.alloc (.cells #[.string (str nm), .slice A1 n0 c1, .int .i64 ((sf : Nat) : Int)] 75)) from (Below.refl _ _).alloc (Nat.le_refl _) _)
    have Hbx := hid (heap_alloc_last w1 (.cells #[.string (str nm), .slice A1 n0 c1, .int .i64 ((sf : Nat) : Int)] 75))
    go_wp2_with fail
    apply wp_drawn [isV _, isV _, isV _, isV _, isV _, isV _, isV _, isV _, isV _, isV _] (by kernel_rfl)
    · kernel_rfl
    · refine ⟨?uqs0, ?uqs1, ?uqs2, ?uqs3, ?uqs4, ?uqs5, ?uqs6, ?uqs7, ?uqs8, ?uqs9, trivial⟩
      case uqs0 =>
        intro v W hE hd; simp only [Region.wanted, ↓reduceIte]; (try simp [deps, waitsOn, Region.binds, knowing, isV, ownsV, anyV] at hd); simp only [putAll, List.take_succ_cons, List.take_zero, List.drop_succ_cons, List.drop_zero, Act.put, List.setIfInBounds_toArray, List.set_cons_zero, List.set_cons_succ, Nat.zero_add, Nat.reduceAdd]; go_simp; exact ⟨Below.refl _ _, rfl⟩
      case uqs1 =>
        intro v W hE hd; simp only [Region.wanted, ↓reduceIte]; (try simp [deps, waitsOn, Region.binds, knowing, isV, ownsV, anyV] at hd); simp only [putAll, List.take_succ_cons, List.take_zero, List.drop_succ_cons, List.drop_zero, Act.put, List.setIfInBounds_toArray, List.set_cons_zero, List.set_cons_succ, Nat.zero_add, Nat.reduceAdd]
        go_simp
        refine (used_ref ((H1.out.ext HEb.out).ext hE)).mono ?_
        rintro e w' ⟨rfl, rfl⟩
        go_simp
        exact ⟨Below.refl _ _, rfl⟩
      case uqs2 =>
        intro v W hE hd; simp only [Region.wanted, ↓reduceIte]; (try simp [deps, waitsOn, Region.binds, knowing, isV, ownsV, anyV] at hd); simp only [putAll, List.take_succ_cons, List.take_zero, List.drop_succ_cons, List.drop_zero, Act.put, List.setIfInBounds_toArray, List.set_cons_zero, List.set_cons_succ, Nat.zero_add, Nat.reduceAdd]; go_simp; exact ⟨Below.refl _ _, rfl⟩
      case uqs3 =>
        intro v W hE hd; simp only [Region.wanted, ↓reduceIte]; (try simp [deps, waitsOn, Region.binds, knowing, isV, ownsV, anyV] at hd); simp only [putAll, List.take_succ_cons, List.take_zero, List.drop_succ_cons, List.drop_zero, Act.put, List.setIfInBounds_toArray, List.set_cons_zero, List.set_cons_succ, Nat.zero_add, Nat.reduceAdd]; go_simp; exact ⟨Below.refl _ _, rfl⟩
      case uqs4 =>
        intro v W hE hd; simp only [Region.wanted, ↓reduceIte]; (try simp [deps, waitsOn, Region.binds, knowing, isV, ownsV, anyV] at hd); simp only [putAll, List.take_succ_cons, List.take_zero, List.drop_succ_cons, List.drop_zero, Act.put, List.setIfInBounds_toArray, List.set_cons_zero, List.set_cons_succ, Nat.zero_add, Nat.reduceAdd]
        have e1 := hid (show IntKind.i64.wrap ((usedF F : Int) + (n : Int)) = (usedF F : Int) + (n : Int) by rw [IntKind.wrap_i64]; have := HN.out; omega)
        go_simp
        rw [e1.out]
        exact ⟨Below.refl _ _, rfl⟩
      case uqs5 =>
        intro v W hE hd; simp only [Region.wanted, ↓reduceIte]; (try simp [deps, waitsOn, Region.binds, knowing, isV, ownsV, anyV] at hd); simp only [putAll, List.take_succ_cons, List.take_zero, List.drop_succ_cons, List.drop_zero, Act.put, List.setIfInBounds_toArray, List.set_cons_zero, List.set_cons_succ, Nat.zero_add, Nat.reduceAdd]; go_simp; exact ⟨Below.refl _ _, rfl⟩
      case uqs6 =>
        intro v W hE hd; simp only [Region.wanted, ↓reduceIte]; (try simp [deps, waitsOn, Region.binds, knowing, isV, ownsV, anyV] at hd); simp only [putAll, List.take_succ_cons, List.take_zero, List.drop_succ_cons, List.drop_zero, Act.put, List.setIfInBounds_toArray, List.set_cons_zero, List.set_cons_succ, Nat.zero_add, Nat.reduceAdd]; go_simp; exact ⟨Below.refl _ _, rfl⟩
      case uqs7 =>
        intro v W hE hd; simp only [Region.wanted, ↓reduceIte]; (try simp [deps, waitsOn, Region.binds, knowing, isV, ownsV, anyV] at hd); simp only [putAll, List.take_succ_cons, List.take_zero, List.drop_succ_cons, List.drop_zero, Act.put, List.setIfInBounds_toArray, List.set_cons_zero, List.set_cons_succ, Nat.zero_add, Nat.reduceAdd]; go_simp; exact ⟨Below.refl _ _, rfl⟩
      case uqs8 =>
        intro v W hE hd; simp only [Region.wanted, ↓reduceIte]; (try simp [deps, waitsOn, Region.binds, knowing, isV, ownsV, anyV] at hd); simp only [putAll, List.take_succ_cons, List.take_zero, List.drop_succ_cons, List.drop_zero, Act.put, List.setIfInBounds_toArray, List.set_cons_zero, List.set_cons_succ, Nat.zero_add, Nat.reduceAdd]
        have e1 := cell_below (Ext.trans' HEb.out hE) H1.out.quota
        go_simp
        exact ⟨Below.refl _ _, rfl⟩
      case uqs9 =>
        intro v W hE hd; simp only [Region.wanted, ↓reduceIte]; (try simp [deps, waitsOn, Region.binds, knowing, isV, ownsV, anyV] at hd); simp only [putAll, List.take_succ_cons, List.take_zero, List.drop_succ_cons, List.drop_zero, Act.put, List.setIfInBounds_toArray, List.set_cons_zero, List.set_cons_succ, Nat.zero_add, Nat.reduceAdd]; go_simp; exact ⟨Below.refl _ _, rfl⟩
    · rintro v W5 hE ⟨-, -, -, -, -, -, -, -, -, e9, -⟩
      have e9 := (show v 9 = _ from e9)
      simp only [putAll, List.take_succ_cons, List.take_zero, List.drop_succ_cons, List.drop_zero, Act.put, List.setIfInBounds_toArray, List.set_cons_zero, List.set_cons_succ, Nat.zero_add, Nat.reduceAdd]
      rw [e9]
      have HE5 := hid (Ext.trans' HEb.out hE)
      have hbk := (hE.block w1.heap.size (by simp)).trans Hbx.out
      have Hf1 := hid (show W5.cell? ⟨w1.heap.size, 1, none⟩ = some (.slice A1 n0 c1) by rw [cell_of_row _ _ _ _ _ _ hbk]; rfl)
      have Hf2 := hid (show W5.cell? ⟨w1.heap.size, 2, none⟩ = some (.int .i64 ((sf : Nat) : Int)) by rw [cell_of_row _ _ _ _ _ _ hbk]; rfl)
      clear hE e9 hbk
      by_cases hsp : q < (usedF F : Int) + (n : Int)
      · rw [decide_eq_true hsp]
        have e3 := hid (show appE q l F nm bs = 10 by unfold appE; rw [if_neg h0, if_neg (by rw [Hmay.out]; decide), if_neg (by rw [Hold.out, ← Hn.out]; show ¬ (65536 < List.length b0 + n ∨ _); rw [← hn0.out]; have := hlc.out; have := HN.out; rintro (h | h) <;> first | omega | (rw [Hat.out] at h; exact absurd h.1 (by simp))), if_pos (by rw [← Hn.out]; exact hsp)])
        have e4 := hid (show appF q l F nm bs = F by unfold appF; rw [e3.out]; rfl)
        clear hsp
        go_wp2
        go_ret
        exact ⟨by rw [e3.out]; rfl, S, g, by rw [e4.out]; exact H1.out.ext HE5.out, S1.out.trans (RStep.of_ext HE5.out H1.out.fresh) (.inl rfl), .inl rfl⟩
      rw [decide_eq_false hsp]
      have E3 := hid (show appE q l F nm bs = 0 by unfold appE; rw [if_neg h0, if_neg (by rw [Hmay.out]; decide), if_neg (by rw [Hold.out, ← Hn.out]; show ¬ (65536 < List.length b0 + n ∨ _); rw [← hn0.out]; have := hlc.out; have := HN.out; rintro (h | h) <;> first | omega | (rw [Hat.out] at h; exact absurd h.1 (by simp))), if_neg (by rw [← Hn.out]; exact hsp)])
      have E4 := hid (show appF q l F nm bs = putF nm ⟨b0 ++ bs, sf⟩ F by unfold appF; rw [E3.out, Hold.out]; rfl)
      have Hr05 := hid (Hr0.out.below HE5.out)
      have HA5 := hid (RB.below (RK.rv HA1.out) HE5.out)
      clear hsp
      go_wp2_with fail
      apply wp_drawn_w 11 7 [0, 0, 1, 0, 0, 1, 0, 2, 0, 0, 2] [isV _, isV _, emptyB W5.heap.size, isV _, isV _, ownB W5.heap.size b0, isV _, ownB W5.heap.size (b0 ++ bs), isV _, isV _, filP W5.heap.size nm (b0 ++ bs) ((sf : Nat) : Int)] (by decide) (by decide) (by kernel_rfl)
      · kernel_rfl
      · kernel_rfl
      · kernel_rfl
      · refine ⟨?pqs0, ?pqs1, ?pqs2, ?pqs3, ?pqs4, ?pqs5, ?pqs6, ?pqs7, ?pqs8, ?pqs9, ?pqs10, trivial⟩
        case pqs0 =>
          intro v W hE hd; simp only [Region.wanted, ↓reduceIte]; (try simp [deps, waitsOn, Region.binds, knowing, isV, ownsV, anyV] at hd); simp only [putAll, List.take_succ_cons, List.take_zero, List.drop_succ_cons, List.drop_zero, Act.put, List.setIfInBounds_toArray, List.set_cons_zero, List.set_cons_succ, Nat.zero_add, Nat.reduceAdd]; go_simp; exact ⟨Below.refl _ _, rfl⟩
        case pqs1 =>
          intro v W hE hd; simp only [Region.wanted, ↓reduceIte]; (try simp [deps, waitsOn, Region.binds, knowing, isV, ownsV, anyV] at hd); simp only [putAll, List.take_succ_cons, List.take_zero, List.drop_succ_cons, List.drop_zero, Act.put, List.setIfInBounds_toArray, List.set_cons_zero, List.set_cons_succ, Nat.zero_add, Nat.reduceAdd]; go_simp; exact ⟨Below.refl _ _, rfl⟩
        case pqs2 =>
          intro v W hE hd; simp only [Region.wanted, ↓reduceIte]; (try simp [deps, waitsOn, Region.binds, knowing, isV, ownsV, anyV] at hd); simp only [putAll, List.take_succ_cons, List.take_zero, List.drop_succ_cons, List.drop_zero, Act.put, List.setIfInBounds_toArray, List.set_cons_zero, List.set_cons_succ, Nat.zero_add, Nat.reduceAdd]
          go_simp
          exact ⟨(Below.refl _ _).alloc (Nat.le_refl _) _, _, rfl, OB_empty W _ hE.size, by have := hE.size; simp; omega⟩
        case pqs3 =>
          intro v W hE hd; simp only [Region.wanted, ↓reduceIte]; (try simp [deps, waitsOn, Region.binds, knowing, isV, ownsV, anyV] at hd); simp only [putAll, List.take_succ_cons, List.take_zero, List.drop_succ_cons, List.drop_zero, Act.put, List.setIfInBounds_toArray, List.set_cons_zero, List.set_cons_succ, Nat.zero_add, Nat.reduceAdd]; go_simp; exact ⟨Below.refl _ _, rfl⟩
        case pqs4 =>
          intro v W hE hd; simp only [Region.wanted, ↓reduceIte]; (try simp [deps, waitsOn, Region.binds, knowing, isV, ownsV, anyV] at hd); simp only [putAll, List.take_succ_cons, List.take_zero, List.drop_succ_cons, List.drop_zero, Act.put, List.setIfInBounds_toArray, List.set_cons_zero, List.set_cons_succ, Nat.zero_add, Nat.reduceAdd]
          have e1 := cell_below hE Hf1.out
          go_simp
          exact ⟨Below.refl _ _, rfl⟩
        case pqs5 =>
          intro v W hE hd; simp only [Region.wanted, ↓reduceIte]; (try simp [deps, waitsOn, Region.binds, knowing, isV, ownsV, anyV] at hd); simp only [putAll, List.take_succ_cons, List.take_zero, List.drop_succ_cons, List.drop_zero, Act.put, List.setIfInBounds_toArray, List.set_cons_zero, List.set_cons_succ, Nat.zero_add, Nat.reduceAdd]
          obtain ⟨⟨ge, e1, h1, h2⟩, e4⟩ := hd
          rw [e1] at h1
          obtain ⟨v', w', hrun, hO', hE'⟩ := run_app_empty h1 h2 hn0.out (Hr05.out.below hE) (by have := hlc.out; omega)
          refine step_app (.tmp 63) (.tmp 65) rfl e1 e4 hrun ?_
          exact ⟨_, rfl, hE', hO', Nat.le_trans h2 hE'.size⟩
        case pqs6 =>
          intro v W hE hd; simp only [Region.wanted, ↓reduceIte]; (try simp [deps, waitsOn, Region.binds, knowing, isV, ownsV, anyV] at hd); simp only [putAll, List.take_succ_cons, List.take_zero, List.drop_succ_cons, List.drop_zero, Act.put, List.setIfInBounds_toArray, List.set_cons_zero, List.set_cons_succ, Nat.zero_add, Nat.reduceAdd]; go_simp; exact ⟨Below.refl _ _, rfl⟩
        case pqs7 =>
          intro v W hE hd; simp only [Region.wanted, ↓reduceIte]; (try simp [deps, waitsOn, Region.binds, knowing, isV, ownsV, anyV] at hd); simp only [putAll, List.take_succ_cons, List.take_zero, List.drop_succ_cons, List.drop_zero, Act.put, List.setIfInBounds_toArray, List.set_cons_zero, List.set_cons_succ, Nat.zero_add, Nat.reduceAdd]
          obtain ⟨⟨h1, h2⟩, e6, -⟩ := hd
          obtain ⟨v', w', hrun, hO', hB'⟩ := run_appB (w0 := W5) h1 hE h2 Hn.out (HA5.out.below hE) (by have := hlc.out; have := hn0.out; omega)
          refine step_app (.tmp 66) (.tmp 67) rfl rfl e6 hrun ?_
          exact ⟨_, rfl, hB', hO', hB'.size⟩
        case pqs8 =>
          intro v W hE hd; simp only [Region.wanted, ↓reduceIte]; (try simp [deps, waitsOn, Region.binds, knowing, isV, ownsV, anyV] at hd); simp only [putAll, List.take_succ_cons, List.take_zero, List.drop_succ_cons, List.drop_zero, Act.put, List.setIfInBounds_toArray, List.set_cons_zero, List.set_cons_succ, Nat.zero_add, Nat.reduceAdd]; go_simp; exact ⟨Below.refl _ _, rfl⟩
        case pqs9 =>
          intro v W hE hd; simp only [Region.wanted, ↓reduceIte]; (try simp [deps, waitsOn, Region.binds, knowing, isV, ownsV, anyV] at hd); simp only [putAll, List.take_succ_cons, List.take_zero, List.drop_succ_cons, List.drop_zero, Act.put, List.setIfInBounds_toArray, List.set_cons_zero, List.set_cons_succ, Nat.zero_add, Nat.reduceAdd]
          have e1 := cell_below hE Hf2.out
          go_simp
          exact ⟨Below.refl _ _, rfl⟩
        case pqs10 =>
          intro v W hE hd; simp only [Region.wanted, ↓reduceIte]; (try simp [deps, waitsOn, Region.binds, knowing, isV, ownsV, anyV] at hd); simp only [putAll, List.take_succ_cons, List.take_zero, List.drop_succ_cons, List.drop_zero, Act.put, List.setIfInBounds_toArray, List.set_cons_zero, List.set_cons_succ, Nat.zero_add, Nat.reduceAdd]
          obtain ⟨e1, ⟨h7, h72⟩, e9⟩ := hd
          obtain ⟨A9, c9, e7, -, -⟩ := OB.read h7
          rw [e7] at h7
          obtain ⟨k9, hk9⟩ : ∃ k9, k9 = (b0 ++ bs).length := ⟨_, rfl⟩
          rw [← hk9] at e7 h7
          have H7 := hid h7; clear h7 hk9
          go_simp
          exact ⟨Below.refl _ _, _, rfl, H7.out, h72⟩
      · intro i hk v w1 w2 h
        match i, hk, h with
        | 0, _, h => exact h
        | 1, _, h => exact h
        | 2, hk, _ => exact absurd hk (by decide)
        | 3, _, h => exact h
        | 4, _, h => exact h
        | 5, hk, _ => exact absurd hk (by decide)
        | 6, _, h => exact h
        | 7, hk, _ => exact absurd hk (by decide)
        | 8, _, h => exact h
        | 9, _, h => exact h
        | 10, hk, _ => exact absurd hk (by decide)
        | _ + 11, _, h => exact h
      · rintro v W6 hE ⟨e0, -, -, -, -, -, -, -, -, -, e10, -⟩
        have e0 := (show v 0 = _ from e0 (by decide))
        have e10 := (show _ from e10 (by decide))
        simp only [putAll, List.take_succ_cons, List.take_zero, List.drop_succ_cons, List.drop_zero, Act.put, List.setIfInBounds_toArray, List.set_cons_zero, List.set_cons_succ, Nat.zero_add, Nat.reduceAdd]
        obtain ⟨x, e10, hO, hsz⟩ := e10
        obtain ⟨Ax, cx, ex, hrel⟩ := own_file (S := S) (nm := nm) (sf := sf) hO (fun k hk => H1.out.fresh k (Nat.le_trans HE5.out.size hk))
        obtain ⟨L, hL⟩ : ∃ L, L = (b0 ++ bs).length := ⟨_, rfl⟩
        rw [← hL] at ex hrel
        subst ex
        obtain ⟨z, hz⟩ : ∃ z, z = ((sf : Nat) : Int) := ⟨_, rfl⟩
        rw [← hz] at e10 hrel
        have HL := hid hL; have Hz := hid hz
        clear hL hz
        rw [e0, e10]
        have HE6 := hid (Ext.trans' HE5.out hE)
        have Hrel := hid hrel
        clear e0 e10 hO hE hrel
        go_wp2_with fail
        refine (put_ref' (H1.out.ext HE6.out) nm (b0 ++ bs) sf Ax L cx z HL.out Hz.out Hrel.out (show (b0 ++ bs).length ≤ 65536 ∧ sf ≤ (b0 ++ bs).length by have := hlc.out; have := hn0.out; have := Hn.out; rw [List.length_append]; omega) (by first | exact .inr ⟨_, Hat.out⟩ | exact .inl (by have := HN.out; omega))).mono ?_
        rintro e w7 ⟨rfl, S', g', hR, hS, hg⟩
        have HR := hid hR; have HS := hid hS; have hg6 := hid hg
        clear hR hS hg
        go_wp2
        go_ret
        have hsz6 := HE6.out.size
        have hsz1 := S1.out.kept.size
        exact ⟨by rw [E3.out]; rfl, S', g', by rw [E4.out]; exact HR.out, (S1.out.trans (RStep.of_ext HE6.out H1.out.fresh) (.inl rfl)).trans HS.out (.inl rfl), hg6.out.imp id fun h => by omega⟩
end Go.Proofs.YtpipmkaljkhgiaaDoor
