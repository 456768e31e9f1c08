/- The walk of disk.Append. -/
import Derived.Test.YtpipmkaljkhgiaaDoorDisk14
namespace Go.Proofs.YtpipmkaljkhgiaaDoor
open Go Go.RowKit
set_option linter.unusedSimpArgs false
set_option linter.unusedVariables false

def oldF (F : Files) (nm : List UInt8) : File := (atF F nm).getD ⟨[], 0⟩
def appE (q l : Int) (F : Files) (nm bs : List UInt8) : Int :=
  if l = 0 then 14 else if mayB nm = false then 5 else if 65536 < (oldF F nm).b.length + bs.length ∨ (atF F nm = none ∧ 200 ≤ F.length) then 3
  else if q < (usedF F : Int) + (bs.length : Int) then 10 else 0
def appF (q l : Int) (F : Files) (nm bs : List UInt8) : Files := if appE q l F nm bs = 0 then putF nm ⟨(oldF F nm).b ++ bs, (oldF F nm).safe⟩ F else F
/-- Two cells in a row. -/
def twoAt (x y : Value) : SPred := ⟨fun v w => ∃ g, v = .slice (some ⟨g, 0, none⟩) 2 2 ∧ w.cell? ⟨g, 0, none⟩ = some x ∧ w.cell? ⟨g, 1, none⟩ = some y, fun _ _ _ ⟨g, h1, h2, h3⟩ hE => ⟨g, h1, cell_below hE h2, cell_below hE h3⟩⟩
/-- A file's value over bytes of the call's own. -/
def fileOf (base : Nat) (bs : List UInt8) (sf : Int) : SPred := ⟨fun v w => ∃ x, v = .agg #[x, .int .i64 sf] ∧ OB w base x bs, fun _ _ _ ⟨x, h1, h2⟩ hE => ⟨x, h1, h2.below hE⟩⟩
/-- Bytes that nobody writes. -/
abbrev RS (w : World) (S : Nat → Prop) (A : Option Addr) (bs : List UInt8) : Prop := RK w (fun k => k < w.heap.size ∧ ¬ S k) A (bvs bs)
theorem RS.kept {w w' : World} {S : Nat → Prop} {A : Option Addr} {bs : List UInt8} (h : RS w S A bs) {d m : Nat} (hk : Kept2 d m w w') (hd : S d) (hm : S m) : RS w' S A bs := by
  refine (RK.ext h fun k hk' => hk.block k hk'.1 ?_ ?_).mono fun k hk' => ⟨Nat.lt_of_lt_of_le hk'.1 hk.size, hk'.2⟩
  · rintro rfl; exact hk'.2 hd
  · rintro rfl; exact hk'.2 hm
theorem usedF_le {w : World} {S : Nat → Prop} : ∀ {G : Raw} {F : Files}, Held w S G F → usedF F ≤ 65536 * F.length
  | [], [], _ => by simp [usedF]
  | p :: G, q :: F, ⟨h1, h2, h3⟩ => by
    have ih := usedF_le h3
    obtain ⟨A, c, e, _, _, _, hb, _⟩ := h2
    unfold usedF at ih ⊢
    rw [List.map_cons, List.sum_cons, List.length_cons, Nat.mul_add]
    omega
/-- What stands at a name. -/
theorem known_are {w : World} {S : Nat → Prop} {l : Int} {G : Raw} {F : Files} (hl : l ≠ 0) (hH : Held w S G F) (nm : List UInt8) :
    ∃ A n c sf b E, knownV l G nm = .agg #[.slice A n c, .int .i64 ((sf : Nat) : Int)] ∧ knownE l G nm = E ∧ n = b.length ∧ n ≤ c ∧ c ≤ 9223372036854775807 ∧ n ≤ 65536 ∧ sf ≤ n ∧ RS w S A b ∧ oldF F nm = ⟨b, sf⟩ ∧ ((E = 0 ∧ ¬ atF F nm = none) ∨ (E = 11 ∧ atF F nm = none)) := by
  unfold knownV knownE oldF
  rw [if_neg hl, if_neg hl]
  rcases hH.at_ nm with ⟨h1, h2⟩ | ⟨f, v, h1, h2, A, c, rfl, hc, hcm, hs, hb64, hr⟩
  · rw [h1, h2]
    exact ⟨none, 0, 0, 0, [], 11, rfl, rfl, rfl, Nat.le_refl _, by omega, by omega, Nat.le_refl _, .inl rfl, rfl, .inr ⟨rfl, rfl⟩⟩
  · rw [h1, h2]
    exact ⟨A, f.b.length, c, f.safe, f.b, 0, rfl, rfl, rfl, hc, hcm, hb64, hs, hr, rfl, .inl ⟨rfl, by simp⟩⟩
/-- A file's value out of bytes of the call's own. -/
theorem FileV.made {w w0 : World} {S : Nat → Prop} {v : Value} {bs : List UInt8} {sf : Nat} (h : OB w w0.heap.size v bs) (hS : ∀ k, w0.heap.size ≤ k → ¬ S k) (hs : sf ≤ bs.length) (hb : bs.length ≤ 65536) :
    ∃ A c, v = .slice A bs.length c ∧ FileV w S (.agg #[.slice A bs.length c, .int .i64 (sf : Int)]) ⟨bs, sf⟩ := by
  obtain ⟨h1, h2⟩ := h
  rcases h2 with ⟨rfl, h0⟩ | ⟨g, cap, cur, rfl, hb', hg, hn, hm, hsz, ht⟩
  · have h00 : bs = [] := by
      cases bs with
      | nil => rfl
      | cons x l => simp [bvs] at h0
    subst h00
    exact ⟨none, 0, rfl, none, 0, rfl, Nat.le_refl _, by simp, hs, hb, .inl rfl⟩
  · have hrow : w.ownsRow w0.heap.size 5 1 (.slice (some ⟨g, 0, none⟩) bs.length cap) bs.length (bvs bs) := ⟨h1, .inr ⟨g, cap, cur, rfl, hb', hg, hn, hm, hsz, ht⟩⟩
    obtain ⟨A, c, e, hc, hr⟩ := RV.own hrow
    simp only [Value.slice.injEq] at e
    obtain ⟨rfl, -, rfl⟩ := e
    refine ⟨_, _, rfl, _, _, rfl, hn, by simp only [maxLen] at hm; omega, hs, hb, RK.of_rv hr fun b o e hlt => ⟨hlt, hS b ?_⟩⟩
    simp only [Option.some.injEq, Addr.mk.injEq, and_true] at e
    obtain ⟨rfl, rfl⟩ := e
    exact hb'
set_option maxRecDepth 100000 in
set_option maxHeartbeats 2000000 in
theorem append_raw {w : World} {S : Nat → Prop} {d m : Nat} {q l : Int} {G : Raw} {F : Files} (h : DiskS w d m q l) (hG : MapAt w m G) (hH : Held w S G F) (hne : d ≠ m) (hd : S d) (hm : S m) (hS : ∀ k, w.heap.size ≤ k → ¬ S k) (hF : F.length ≤ 200) (hl : -9223372036854775808 ≤ l ∧ l ≤ 9223372036854775807)
    (nm : List UInt8) (hn : nm.length ≤ 9223372036854775807) (A : Option Addr) (n c : Nat) (bs : List UInt8) (hnb : n = bs.length) (hn1 : n ≤ 100000000) (S2 : Nat → Prop) (hd2 : S2 d) (hm2 : S2 m) (hA : RS w S2 A bs) :
    Calls Tryd.prog 12 #[.pointer (some ⟨d, 0, none⟩), .string (str nm), .slice A n c] w fun e w' => e = .returned (.int .i64 (appE q l F nm bs)) ∧ DiskS w' d m q (burnL l) ∧ (∃ G', MapAt w' m G' ∧ Held w' S G' (appF q l F nm bs)) ∧ Kept2 d m w w' := by
  have H := hid h
  have HG := hid hG
  have HH := hid hH
  have HA := hid hA
  have Hn := hid hnb
  have hu := usedF_le hH
  have HGl := hid hH.length
  have HT := hid hH.total
  have HS := hid hS
  have hzf := zero_file
  unfold zfile at hzf
  clear h hG hA hH hnb hS
  go_enter Tryd.func12, Tryd.ntmps12
  go_wp2_with fail
  have hcc := known_raw H.out HG.out hne hl nm hn
  refine hcc.mono ?_; clear hcc
  rintro e w1 ⟨rfl, h1, hg1, k1⟩
  have H1 := hid h1; have HG1 := hid hg1; have K1 := hid k1
  have HH1 := hid (HH.out.kept k1 hd hm)
  clear h1 hg1 k1
  have hE1 : ∀ o, Hid (DiskS (w1.alloc o) d m q (burnL l) ∧ MapAt (w1.alloc o) m G ∧ Kept2 d m w (w1.alloc o)) := fun o => by
    have hE : Ext w1 (w1.alloc o) := (Below.refl _ _).alloc (Nat.le_refl _) o
    exact ⟨H1.out.ext hE, HG1.out.ext hE, K1.out.trans (Kept2.of_ext hE)⟩
  by_cases h0 : l = 0
  · have e1 := hid (show knownV l G nm = .agg #[.slice none 0 0, .int .i64 0] by unfold knownV; rw [if_pos h0]; rfl)
    have e2 := hid (show knownE l G nm = 14 by unfold knownE; rw [if_pos h0])
    have e3 := hid (show appE q l F nm bs = 14 by unfold appE; rw [if_pos h0])
    have e4 := hid (show appF q l F nm bs = F by unfold appF; rw [e3.out]; rfl)
    rw [e1.out, e2.out]
    have HE1 := hE1 (.cells #[.slice none 0 0, .int .i64 0] 60)
    have HHe := hid (HH.out.kept HE1.out.2.2 hd hm)
    clear hE1
    go_wp2
    go_ret
    exact ⟨by rw [e3.out]; rfl, HE1.out.1, ⟨_, HE1.out.2.1, by rw [e4.out]; exact HHe.out⟩, HE1.out.2.2⟩
  obtain ⟨A0, n0, c0, sf, b0, E, e1, e2, hn0, hc0, hc0m, hn64, hsf, hr0, hold, hE⟩ := known_are h0 HH1.out nm
  rw [e1, e2]
  have HE1 := hE1 (.cells #[.slice A0 n0 c0, .int .i64 (sf : Int)] 60)
  have Hn0 := hid hn0; have Hr0 := hid hr0; have Hold := hid hold
  have Hf0 := hid (show (w1.alloc (.cells #[.slice A0 n0 c0, .int .i64 (sf : Int)] 60)).cell? ⟨w1.heap.size, 0, none⟩ = some (.slice A0 n0 c0) by rw [cell_of_row _ _ _ _ _ _ (heap_alloc_last w1 _)]; rfl)
  have Hf1 := hid (show (w1.alloc (.cells #[.slice A0 n0 c0, .int .i64 (sf : Int)] 60)).cell? ⟨w1.heap.size, 1, none⟩ = some (.int .i64 (sf : Int)) by rw [cell_of_row _ _ _ _ _ _ (heap_alloc_last w1 _)]; rfl)
  have hEA : Ext w1 (w1.alloc (.cells #[.slice A0 n0 c0, .int .i64 (sf : Int)] 60)) := (Below.refl _ _).alloc (Nat.le_refl _) _
  have HEA := hid hEA
  clear hE1 e1 e2 hn0 hr0 hold hEA
  have hmc := fun w => may_at nm w
  have Hhe := hid hE; clear hE
  rcases Hhe.out with ⟨rfl, hat⟩ | ⟨rfl, hat⟩
  ·
    have Hat := hid hat; clear hat
    go_wp2_with fail
    generalize w1.alloc (.cells #[.slice A0 n0 c0, .int .i64 (sf : Int)] 60) = W1 at HE1 HEA Hf0 Hf1 ⊢
    have HH2 := hid (HH.out.kept HE1.out.2.2 hd hm)
    have g1 : w1.heap.size < W1.heap.size := World.block_lt_of_cell? W1 ⟨w1.heap.size, 0, none⟩ Hf0.out
    refine (hmc _).mono ?_
    clear hmc
    rintro e w3 ⟨rfl, hb3⟩
    have HB3 := hid hb3; clear hb3
    cases hmay : mayB nm
    · have Hmay := hid hmay; clear hmay
      have e3 := hid (show appE q l F nm bs = 5 by unfold appE; rw [if_neg h0, if_pos Hmay.out])
      have e4 := hid (show appF q l F nm bs = F by unfold appF; rw [e3.out]; rfl)
      go_wp2
      go_ret
      exact ⟨by rw [e3.out]; rfl, HE1.out.1.ext HB3.out, ⟨_, HE1.out.2.1.ext HB3.out, by rw [e4.out]; exact HH2.out.kept (Kept2.of_ext (d := d) (m := m) HB3.out) hd hm⟩, HE1.out.2.2.trans (Kept2.of_ext HB3.out)⟩
    have Hmay := hid hmay; clear hmay
    have HD3 := hid (HE1.out.1.ext HB3.out)
    have HM3 := hid (HE1.out.2.1.ext HB3.out)
    have HK3 := hid (HE1.out.2.2.trans (Kept2.of_ext HB3.out))
    have HH3 := hid (HH.out.kept HK3.out hd hm)
    have f0 := cell_below HB3.out Hf0.out
    have c0' := HD3.out.files
    have hlen := fun ty => HM3.out.len ty
    rw [HGl.out] at hlen
    by_cases hb : 65536 < n0 + n ∨ (False)
    · have e3 := hid (show appE q l F nm bs = 3 by unfold appE; rw [if_neg h0, if_neg (by rw [Hmay.out]; decide), Hold.out]; exact if_pos (by rw [← Hn.out]; show 65536 < b0.length + n ∨ _; rw [← Hn0.out]; exact hb.imp id fun h => (by first | exact ⟨Hat.out, h⟩ | exact h.elim)))
      have e4 := hid (show appF q l F nm bs = F by unfold appF; rw [e3.out]; rfl)
      by_cases hb1 : (65536 : Int) < (n0 : Int) + (n : Int)
      · clear hb
        go_wp2
        go_ret
        exact ⟨by rw [e3.out]; rfl, HD3.out, ⟨_, HM3.out, by rw [e4.out]; exact HH3.out⟩, HK3.out⟩
      · first
        | (exfalso; rcases hb with hb | hb; (· omega); (· exact hb))
        | (have hs1 : (200 : Int) ≤ (F.length : Int) := by omega
           clear hb
           go_wp2
           go_ret
           exact ⟨by rw [e3.out]; rfl, HD3.out, ⟨_, HM3.out, by rw [e4.out]; exact HH3.out⟩, HK3.out⟩)
    have hb1 : ¬ ((65536 : Int) < (n0 : Int) + (n : Int)) := by omega
    have hb2 : True := by first | trivial | omega
    have hlc : Hid (n0 + n ≤ 65536) := by unfold Hid; omega
    have hsum : Hid (total G ≤ 1000000000000) := by unfold Hid; rw [HT.out]; omega
    clear hb hu
    go_wp2_with fail
    apply wp_drawn [isV _, isV _, isV _, isV _, isV _, isV _, isV _, isV _, isV _, isV _, isV _] (by kernel_rfl)
    · kernel_rfl
    · refine ⟨?r8s0, ?r8s1, ?r8s2, ?r8s3, ?r8s4, ?r8s5, ?r8s6, ?r8s7, ?r8s8, ?r8s9, ?r8s10, trivial⟩
      case r8s0 =>
        intro v W hE hd; simp only [Region.wanted, ↓reduceIte]; (try simp [deps, waitsOn, Region.binds, knowing, isV, ownsV, anyV] at hd); simp only [putAll, List.take_succ_cons, List.take_zero, List.drop_succ_cons, List.drop_zero, Act.put, List.setIfInBounds_toArray, List.set_cons_zero, List.set_cons_succ, Nat.zero_add, Nat.reduceAdd]; go_simp; exact ⟨Below.refl _ _, rfl⟩
      case r8s1 =>
        intro v W hE hd; simp only [Region.wanted, ↓reduceIte]; (try simp [deps, waitsOn, Region.binds, knowing, isV, ownsV, anyV] at hd); simp only [putAll, List.take_succ_cons, List.take_zero, List.drop_succ_cons, List.drop_zero, Act.put, List.setIfInBounds_toArray, List.set_cons_zero, List.set_cons_succ, Nat.zero_add, Nat.reduceAdd]
        go_simp
        refine (used_raw (HD3.out.ext hE) (HM3.out.ext hE) hsum.out).mono ?_
        rintro e w5 ⟨rfl, hb5⟩
        have HB := hid hb5; clear hb5
        go_simp
        exact ⟨HB.out, rfl⟩
      case r8s2 =>
        intro v W hE hd; simp only [Region.wanted, ↓reduceIte]; (try simp [deps, waitsOn, Region.binds, knowing, isV, ownsV, anyV] at hd); simp only [putAll, List.take_succ_cons, List.take_zero, List.drop_succ_cons, List.drop_zero, Act.put, List.setIfInBounds_toArray, List.set_cons_zero, List.set_cons_succ, Nat.zero_add, Nat.reduceAdd]; go_simp; exact ⟨Below.refl _ _, rfl⟩
      case r8s3 =>
        intro v W hE hd; simp only [Region.wanted, ↓reduceIte]; (try simp [deps, waitsOn, Region.binds, knowing, isV, ownsV, anyV] at hd); simp only [putAll, List.take_succ_cons, List.take_zero, List.drop_succ_cons, List.drop_zero, Act.put, List.setIfInBounds_toArray, List.set_cons_zero, List.set_cons_succ, Nat.zero_add, Nat.reduceAdd]; go_simp; exact ⟨Below.refl _ _, rfl⟩
      case r8s4 =>
        intro v W hE hd; simp only [Region.wanted, ↓reduceIte]; (try simp [deps, waitsOn, Region.binds, knowing, isV, ownsV, anyV] at hd); simp only [putAll, List.take_succ_cons, List.take_zero, List.drop_succ_cons, List.drop_zero, Act.put, List.setIfInBounds_toArray, List.set_cons_zero, List.set_cons_succ, Nat.zero_add, Nat.reduceAdd]
        have e1 := hid (show IntKind.i64.wrap ((total G : Int) + (n : Int)) = (total G : Int) + (n : Int) by rw [IntKind.wrap_i64]; have := hsum.out; omega)
        go_simp
        rw [e1.out]
        exact ⟨Below.refl _ _, rfl⟩
      case r8s5 =>
        intro v W hE hd; simp only [Region.wanted, ↓reduceIte]; (try simp [deps, waitsOn, Region.binds, knowing, isV, ownsV, anyV] at hd); simp only [putAll, List.take_succ_cons, List.take_zero, List.drop_succ_cons, List.drop_zero, Act.put, List.setIfInBounds_toArray, List.set_cons_zero, List.set_cons_succ, Nat.zero_add, Nat.reduceAdd]; go_simp; exact ⟨Below.refl _ _, rfl⟩
      case r8s6 =>
        intro v W hE hd; simp only [Region.wanted, ↓reduceIte]; (try simp [deps, waitsOn, Region.binds, knowing, isV, ownsV, anyV] at hd); simp only [putAll, List.take_succ_cons, List.take_zero, List.drop_succ_cons, List.drop_zero, Act.put, List.setIfInBounds_toArray, List.set_cons_zero, List.set_cons_succ, Nat.zero_add, Nat.reduceAdd]; go_simp; exact ⟨Below.refl _ _, rfl⟩
      case r8s7 =>
        intro v W hE hd; simp only [Region.wanted, ↓reduceIte]; (try simp [deps, waitsOn, Region.binds, knowing, isV, ownsV, anyV] at hd); simp only [putAll, List.take_succ_cons, List.take_zero, List.drop_succ_cons, List.drop_zero, Act.put, List.setIfInBounds_toArray, List.set_cons_zero, List.set_cons_succ, Nat.zero_add, Nat.reduceAdd]; go_simp; exact ⟨Below.refl _ _, rfl⟩
      case r8s8 =>
        intro v W hE hd; simp only [Region.wanted, ↓reduceIte]; (try simp [deps, waitsOn, Region.binds, knowing, isV, ownsV, anyV] at hd); simp only [putAll, List.take_succ_cons, List.take_zero, List.drop_succ_cons, List.drop_zero, Act.put, List.setIfInBounds_toArray, List.set_cons_zero, List.set_cons_succ, Nat.zero_add, Nat.reduceAdd]
        have e1 := cell_below hE HD3.out.quota
        go_simp
        exact ⟨Below.refl _ _, rfl⟩
      case r8s9 =>
        intro v W hE hd; simp only [Region.wanted, ↓reduceIte]; (try simp [deps, waitsOn, Region.binds, knowing, isV, ownsV, anyV] at hd); simp only [putAll, List.take_succ_cons, List.take_zero, List.drop_succ_cons, List.drop_zero, Act.put, List.setIfInBounds_toArray, List.set_cons_zero, List.set_cons_succ, Nat.zero_add, Nat.reduceAdd]; go_simp; exact ⟨Below.refl _ _, rfl⟩
      case r8s10 =>
        intro v W hE hd; simp only [Region.wanted, ↓reduceIte]; (try simp [deps, waitsOn, Region.binds, knowing, isV, ownsV, anyV] at hd); simp only [putAll, List.take_succ_cons, List.take_zero, List.drop_succ_cons, List.drop_zero, Act.put, List.setIfInBounds_toArray, List.set_cons_zero, List.set_cons_succ, Nat.zero_add, Nat.reduceAdd]; go_simp; exact ⟨Below.refl _ _, rfl⟩
    · rintro v W hE ⟨-, -, -, -, -, -, -, -, -, -, e10, -⟩
      have e10 := (show v 10 = _ from e10)
      simp only [putAll, List.take_succ_cons, List.take_zero, List.drop_succ_cons, List.drop_zero, Act.put, List.setIfInBounds_toArray, List.set_cons_zero, List.set_cons_succ, Nat.zero_add, Nat.reduceAdd]
      rw [e10]
      have HD5 := hid (HD3.out.ext hE)
      have HM5 := hid (HM3.out.ext hE)
      have HK5 := hid (HK3.out.trans (Kept2.of_ext hE))
      have HH5 := hid (HH.out.kept HK5.out hd hm)
      have Hf05 := hid (cell_below (Ext.trans' HB3.out hE) Hf0.out)
      have Hf15 := hid (cell_below (Ext.trans' HB3.out hE) Hf1.out)
      have Hr05 := hid (Hr0.out.kept (Kept2.of_ext (d := d) (m := m) (Ext.trans' (Ext.trans' HEA.out HB3.out) hE)) hd hm)
      have HA5 := hid (HA.out.kept HK5.out hd2 hm2)
      clear hE e10
      by_cases hsp : q < (total G : Int) + (n : Int)
      · rw [decide_eq_true hsp]
        have E3 := hid (show appE q l F nm bs = 10 by unfold appE; rw [if_neg h0, if_neg (by rw [Hmay.out]; decide), if_neg (by rw [Hold.out, ← Hn.out]; show ¬ (65536 < b0.length + n ∨ _); rw [← Hn0.out]; have := hlc.out; rintro (h | h) <;> first | omega | exact Hat.out h.1), if_pos (by rw [← Hn.out, ← HT.out]; exact hsp)])
        have E4 := hid (show appF q l F nm bs = F by unfold appF; rw [E3.out]; rfl)
        clear hsp
        go_wp2
        go_ret
        exact ⟨by rw [E3.out]; rfl, HD5.out, ⟨_, HM5.out, by rw [E4.out]; exact HH5.out⟩, HK5.out⟩
      rw [decide_eq_false hsp]
      have E3 := hid (show appE q l F nm bs = 0 by unfold appE; rw [if_neg h0, if_neg (by rw [Hmay.out]; decide), if_neg (by rw [Hold.out, ← Hn.out]; show ¬ (65536 < b0.length + n ∨ _); rw [← Hn0.out]; have := hlc.out; rintro (h | h) <;> first | omega | exact Hat.out h.1), if_neg (by rw [← Hn.out, ← HT.out]; exact hsp)])
      have E4 := hid (show appF q l F nm bs = putF nm ⟨b0 ++ bs, sf⟩ F by unfold appF; rw [E3.out, Hold.out]; rfl)
      clear hsp
      go_wp2_with fail
      apply wp_drawn_last 13 [isV _, isV _, isV _, isV _, isV _, isV _, isV _, isV _, twoAt (.slice A0 n0 c0) (.slice A n c), ownsV w.heap.size (b0 ++ bs), isV _, isV _, fileOf w.heap.size (b0 ++ bs) (sf : Int)] (by decide) (by kernel_rfl)
      · kernel_rfl
      · kernel_rfl
      · refine ⟨?r10s0, ?r10s1, ?r10s2, ?r10s3, ?r10s4, ?r10s5, ?r10s6, ?r10s7, ?r10s8, ?r10s9, ?r10s10, ?r10s11, ?r10s12, trivial⟩
        case r10s0 =>
          intro v W hE hd; simp only [Region.wanted, ↓reduceIte]; (try simp [deps, waitsOn, Region.binds, knowing, isV, ownsV, anyV] at hd); simp only [putAll, List.take_succ_cons, List.take_zero, List.drop_succ_cons, List.drop_zero, Act.put, List.setIfInBounds_toArray, List.set_cons_zero, List.set_cons_succ, Nat.zero_add, Nat.reduceAdd]; go_simp; exact ⟨Below.refl _ _, rfl⟩
        case r10s1 =>
          intro v W hE hd; simp only [Region.wanted, ↓reduceIte]; (try simp [deps, waitsOn, Region.binds, knowing, isV, ownsV, anyV] at hd); simp only [putAll, List.take_succ_cons, List.take_zero, List.drop_succ_cons, List.drop_zero, Act.put, List.setIfInBounds_toArray, List.set_cons_zero, List.set_cons_succ, Nat.zero_add, Nat.reduceAdd]; go_simp; exact ⟨Below.refl _ _, rfl⟩
        case r10s2 =>
          intro v W hE hd; simp only [Region.wanted, ↓reduceIte]; (try simp [deps, waitsOn, Region.binds, knowing, isV, ownsV, anyV] at hd); simp only [putAll, List.take_succ_cons, List.take_zero, List.drop_succ_cons, List.drop_zero, Act.put, List.setIfInBounds_toArray, List.set_cons_zero, List.set_cons_succ, Nat.zero_add, Nat.reduceAdd]; go_simp; exact ⟨Below.refl _ _, rfl⟩
        case r10s3 =>
          intro v W hE hd; simp only [Region.wanted, ↓reduceIte]; (try simp [deps, waitsOn, Region.binds, knowing, isV, ownsV, anyV] at hd); simp only [putAll, List.take_succ_cons, List.take_zero, List.drop_succ_cons, List.drop_zero, Act.put, List.setIfInBounds_toArray, List.set_cons_zero, List.set_cons_succ, Nat.zero_add, Nat.reduceAdd]
          have e1 := cell_below hE HD5.out.files
          go_simp
          exact ⟨Below.refl _ _, rfl⟩
        case r10s4 =>
          intro v W hE hd; simp only [Region.wanted, ↓reduceIte]; (try simp [deps, waitsOn, Region.binds, knowing, isV, ownsV, anyV] at hd); simp only [putAll, List.take_succ_cons, List.take_zero, List.drop_succ_cons, List.drop_zero, Act.put, List.setIfInBounds_toArray, List.set_cons_zero, List.set_cons_succ, Nat.zero_add, Nat.reduceAdd]; go_simp; exact ⟨Below.refl _ _, rfl⟩
        case r10s5 =>
          intro v W hE hd; simp only [Region.wanted, ↓reduceIte]; (try simp [deps, waitsOn, Region.binds, knowing, isV, ownsV, anyV] at hd); simp only [putAll, List.take_succ_cons, List.take_zero, List.drop_succ_cons, List.drop_zero, Act.put, List.setIfInBounds_toArray, List.set_cons_zero, List.set_cons_succ, Nat.zero_add, Nat.reduceAdd]; go_simp; exact ⟨Below.refl _ _, rfl⟩
        case r10s6 =>
          intro v W hE hd; simp only [Region.wanted, ↓reduceIte]; (try simp [deps, waitsOn, Region.binds, knowing, isV, ownsV, anyV] at hd); simp only [putAll, List.take_succ_cons, List.take_zero, List.drop_succ_cons, List.drop_zero, Act.put, List.setIfInBounds_toArray, List.set_cons_zero, List.set_cons_succ, Nat.zero_add, Nat.reduceAdd]
          have e1 := cell_below hE Hf05.out
          go_simp
          exact ⟨Below.refl _ _, rfl⟩
        case r10s7 =>
          intro v W hE hd; simp only [Region.wanted, ↓reduceIte]; (try simp [deps, waitsOn, Region.binds, knowing, isV, ownsV, anyV] at hd); simp only [putAll, List.take_succ_cons, List.take_zero, List.drop_succ_cons, List.drop_zero, Act.put, List.setIfInBounds_toArray, List.set_cons_zero, List.set_cons_succ, Nat.zero_add, Nat.reduceAdd]; go_simp; exact ⟨Below.refl _ _, rfl⟩
        case r10s8 =>
          intro v W hE hd; simp only [Region.wanted, ↓reduceIte]; (try simp [deps, waitsOn, Region.binds, knowing, isV, ownsV, anyV] at hd); simp only [putAll, List.take_succ_cons, List.take_zero, List.drop_succ_cons, List.drop_zero, Act.put, List.setIfInBounds_toArray, List.set_cons_zero, List.set_cons_succ, Nat.zero_add, Nat.reduceAdd]
          go_simp
          exact ⟨(Below.refl _ _).alloc (Nat.le_refl _) _, _, rfl, by rw [cell_of_row _ _ _ _ _ _ (heap_alloc_last _ _)]; rfl, by rw [cell_of_row _ _ _ _ _ _ (heap_alloc_last _ _)]; rfl⟩
        case r10s9 =>
          intro v W hE hd; simp only [Region.wanted, ↓reduceIte]; (try simp [deps, waitsOn, Region.binds, knowing, isV, ownsV, anyV] at hd); simp only [putAll, List.take_succ_cons, List.take_zero, List.drop_succ_cons, List.drop_zero, Act.put, List.setIfInBounds_toArray, List.set_cons_zero, List.set_cons_succ, Nat.zero_add, Nat.reduceAdd]
          obtain ⟨g, e1, e2, e3⟩ := hd
          have E2 := hid e2; have E3' := hid e3; clear e2 e3
          go_simp
          refine (concat_at g A0 n0 c0 b0 A n c bs W Hn0.out Hn.out (by omega) (by omega) (RK.rv Hr05.out |>.below hE) (RK.rv HA5.out |>.below hE) E2.out E3'.out).mono ?_
          rintro e w6 ⟨v6, rfl, hO6, hB6⟩
          have HO := hid hO6; have HB := hid hB6; clear hO6 hB6
          go_simp
          exact ⟨HB.out, HO.out.base (Nat.le_trans HK5.out.size hE.size)⟩
        case r10s10 =>
          intro v W hE hd; simp only [Region.wanted, ↓reduceIte]; (try simp [deps, waitsOn, Region.binds, knowing, isV, ownsV, anyV] at hd); simp only [putAll, List.take_succ_cons, List.take_zero, List.drop_succ_cons, List.drop_zero, Act.put, List.setIfInBounds_toArray, List.set_cons_zero, List.set_cons_succ, Nat.zero_add, Nat.reduceAdd]; go_simp; exact ⟨Below.refl _ _, rfl⟩
        case r10s11 =>
          intro v W hE hd; simp only [Region.wanted, ↓reduceIte]; (try simp [deps, waitsOn, Region.binds, knowing, isV, ownsV, anyV] at hd); simp only [putAll, List.take_succ_cons, List.take_zero, List.drop_succ_cons, List.drop_zero, Act.put, List.setIfInBounds_toArray, List.set_cons_zero, List.set_cons_succ, Nat.zero_add, Nat.reduceAdd]
          have e1 := cell_below hE Hf15.out
          go_simp
          exact ⟨Below.refl _ _, rfl⟩
        case r10s12 =>
          intro v W hE hd; simp only [Region.wanted, ↓reduceIte]; (try simp [deps, waitsOn, Region.binds, knowing, isV, ownsV, anyV] at hd); simp only [putAll, List.take_succ_cons, List.take_zero, List.drop_succ_cons, List.drop_zero, Act.put, List.setIfInBounds_toArray, List.set_cons_zero, List.set_cons_succ, Nat.zero_add, Nat.reduceAdd]
          obtain ⟨h9, h11⟩ := hd
          obtain ⟨A9, c9, e9, -, -⟩ := OB.read h9
          rw [e9] at h9
          obtain ⟨k, hk⟩ : ∃ k, k = (b0 ++ bs).length := ⟨_, rfl⟩
          rw [← hk] at e9 h9
          have H9 := hid h9; clear h9 hk
          go_simp
          exact ⟨Below.refl _ _, _, rfl, H9.out⟩
      · rintro v W hE ⟨-, -, -, e3, e4, -, -, -, -, -, -, -, e12, -⟩
        have e3 := (show v 3 = _ from e3)
        have e4 := (show v 4 = _ from e4)
        have e12 := (show _ from e12)
        simp only [putAll, List.take_succ_cons, List.take_zero, List.drop_succ_cons, List.drop_zero, Act.put, List.setIfInBounds_toArray, List.set_cons_zero, List.set_cons_succ, Nat.zero_add, Nat.reduceAdd]
        obtain ⟨x, e12, hO⟩ := e12
        obtain ⟨Ax, cx, ex, hFV⟩ := FileV.made hO HS.out (show sf ≤ (b0 ++ bs).length by have := Hn0.out; simp; omega) (by have := hlc.out; have := Hn0.out; have := Hn.out; simp; omega)
        obtain ⟨k, hk⟩ : ∃ k, k = (b0 ++ bs).length := ⟨_, rfl⟩
        rw [← hk] at ex hFV
        subst ex
        have HFV := hid hFV; clear hFV hO hk
        rw [e3, e4, e12]
        have HD6 := hid (HD5.out.ext hE)
        have HM6 := hid (HM5.out.ext hE)
        have HK6 := hid (HK5.out.trans (Kept2.of_ext hE))
        have HH6 := hid (HH.out.kept HK6.out hd hm)
        obtain ⟨w7, hrun, hM7, ht7⟩ := HM6.out.store nm (.agg #[.slice Ax k cx, .int .i64 (sf : Int)]) rfl hn (by have := HGl.out; omega)
        have HM7 := hid hM7; have Ht7 := hid ht7.grown
        clear e3 e4 e12 hM7 ht7 hE
        go_wp2
        go_ret
        have hk := Kept2.of_grown (d := d) Ht7.out (.inr rfl)
        exact ⟨by rw [E3.out]; rfl, HD6.out.of_block (Ht7.out.block d HD6.out.lt (fun e => hne (by simpa using e))), ⟨_, HM7.out, by rw [E4.out]; exact (HH6.out.put HFV.out).kept hk hd hm⟩, HK6.out.trans hk⟩
  ·
    have Hat := hid hat; clear hat
    go_wp2_with fail
    generalize w1.alloc (.cells #[.slice A0 n0 c0, .int .i64 (sf : Int)] 60) = W1 at HE1 HEA Hf0 Hf1 ⊢
    have HH2 := hid (HH.out.kept HE1.out.2.2 hd hm)
    have g1 : w1.heap.size < W1.heap.size := World.block_lt_of_cell? W1 ⟨w1.heap.size, 0, none⟩ Hf0.out
    refine (hmc _).mono ?_
    clear hmc
    rintro e w3 ⟨rfl, hb3⟩
    have HB3 := hid hb3; clear hb3
    cases hmay : mayB nm
    · have Hmay := hid hmay; clear hmay
      have e3 := hid (show appE q l F nm bs = 5 by unfold appE; rw [if_neg h0, if_pos Hmay.out])
      have e4 := hid (show appF q l F nm bs = F by unfold appF; rw [e3.out]; rfl)
      go_wp2
      go_ret
      exact ⟨by rw [e3.out]; rfl, HE1.out.1.ext HB3.out, ⟨_, HE1.out.2.1.ext HB3.out, by rw [e4.out]; exact HH2.out.kept (Kept2.of_ext (d := d) (m := m) HB3.out) hd hm⟩, HE1.out.2.2.trans (Kept2.of_ext HB3.out)⟩
    have Hmay := hid hmay; clear hmay
    have HD3 := hid (HE1.out.1.ext HB3.out)
    have HM3 := hid (HE1.out.2.1.ext HB3.out)
    have HK3 := hid (HE1.out.2.2.trans (Kept2.of_ext HB3.out))
    have HH3 := hid (HH.out.kept HK3.out hd hm)
    have f0 := cell_below HB3.out Hf0.out
    have c0' := HD3.out.files
    have hlen := fun ty => HM3.out.len ty
    rw [HGl.out] at hlen
    by_cases hb : 65536 < n0 + n ∨ (200 ≤ F.length)
    · have e3 := hid (show appE q l F nm bs = 3 by unfold appE; rw [if_neg h0, if_neg (by rw [Hmay.out]; decide), Hold.out]; exact if_pos (by rw [← Hn.out]; show 65536 < b0.length + n ∨ _; rw [← Hn0.out]; exact hb.imp id fun h => (by first | exact ⟨Hat.out, h⟩ | exact h.elim)))
      have e4 := hid (show appF q l F nm bs = F by unfold appF; rw [e3.out]; rfl)
      by_cases hb1 : (65536 : Int) < (n0 : Int) + (n : Int)
      · clear hb
        go_wp2
        go_ret
        exact ⟨by rw [e3.out]; rfl, HD3.out, ⟨_, HM3.out, by rw [e4.out]; exact HH3.out⟩, HK3.out⟩
      · first
        | (exfalso; rcases hb with hb | hb; (· omega); (· exact hb))
        | (have hs1 : (200 : Int) ≤ (F.length : Int) := by omega
           clear hb
           go_wp2
           go_ret
           exact ⟨by rw [e3.out]; rfl, HD3.out, ⟨_, HM3.out, by rw [e4.out]; exact HH3.out⟩, HK3.out⟩)
    have hb1 : ¬ ((65536 : Int) < (n0 : Int) + (n : Int)) := by omega
    have hb2 : ¬ ((200 : Int) ≤ (F.length : Int)) := by first | trivial | omega
    have hlc : Hid (n0 + n ≤ 65536) := by unfold Hid; omega
    have hsum : Hid (total G ≤ 1000000000000) := by unfold Hid; rw [HT.out]; omega
    clear hb hu
    go_wp2_with fail
    apply wp_drawn [isV _, isV _, isV _, isV _, isV _, isV _, isV _, isV _, isV _, isV _, isV _] (by kernel_rfl)
    · kernel_rfl
    · refine ⟨?r8s0, ?r8s1, ?r8s2, ?r8s3, ?r8s4, ?r8s5, ?r8s6, ?r8s7, ?r8s8, ?r8s9, ?r8s10, trivial⟩
      case r8s0 =>
        intro v W hE hd; simp only [Region.wanted, ↓reduceIte]; (try simp [deps, waitsOn, Region.binds, knowing, isV, ownsV, anyV] at hd); simp only [putAll, List.take_succ_cons, List.take_zero, List.drop_succ_cons, List.drop_zero, Act.put, List.setIfInBounds_toArray, List.set_cons_zero, List.set_cons_succ, Nat.zero_add, Nat.reduceAdd]; go_simp; exact ⟨Below.refl _ _, rfl⟩
      case r8s1 =>
        intro v W hE hd; simp only [Region.wanted, ↓reduceIte]; (try simp [deps, waitsOn, Region.binds, knowing, isV, ownsV, anyV] at hd); simp only [putAll, List.take_succ_cons, List.take_zero, List.drop_succ_cons, List.drop_zero, Act.put, List.setIfInBounds_toArray, List.set_cons_zero, List.set_cons_succ, Nat.zero_add, Nat.reduceAdd]
        go_simp
        refine (used_raw (HD3.out.ext hE) (HM3.out.ext hE) hsum.out).mono ?_
        rintro e w5 ⟨rfl, hb5⟩
        have HB := hid hb5; clear hb5
        go_simp
        exact ⟨HB.out, rfl⟩
      case r8s2 =>
        intro v W hE hd; simp only [Region.wanted, ↓reduceIte]; (try simp [deps, waitsOn, Region.binds, knowing, isV, ownsV, anyV] at hd); simp only [putAll, List.take_succ_cons, List.take_zero, List.drop_succ_cons, List.drop_zero, Act.put, List.setIfInBounds_toArray, List.set_cons_zero, List.set_cons_succ, Nat.zero_add, Nat.reduceAdd]; go_simp; exact ⟨Below.refl _ _, rfl⟩
      case r8s3 =>
        intro v W hE hd; simp only [Region.wanted, ↓reduceIte]; (try simp [deps, waitsOn, Region.binds, knowing, isV, ownsV, anyV] at hd); simp only [putAll, List.take_succ_cons, List.take_zero, List.drop_succ_cons, List.drop_zero, Act.put, List.setIfInBounds_toArray, List.set_cons_zero, List.set_cons_succ, Nat.zero_add, Nat.reduceAdd]; go_simp; exact ⟨Below.refl _ _, rfl⟩
      case r8s4 =>
        intro v W hE hd; simp only [Region.wanted, ↓reduceIte]; (try simp [deps, waitsOn, Region.binds, knowing, isV, ownsV, anyV] at hd); simp only [putAll, List.take_succ_cons, List.take_zero, List.drop_succ_cons, List.drop_zero, Act.put, List.setIfInBounds_toArray, List.set_cons_zero, List.set_cons_succ, Nat.zero_add, Nat.reduceAdd]
        have e1 := hid (show IntKind.i64.wrap ((total G : Int) + (n : Int)) = (total G : Int) + (n : Int) by rw [IntKind.wrap_i64]; have := hsum.out; omega)
        go_simp
        rw [e1.out]
        exact ⟨Below.refl _ _, rfl⟩
      case r8s5 =>
        intro v W hE hd; simp only [Region.wanted, ↓reduceIte]; (try simp [deps, waitsOn, Region.binds, knowing, isV, ownsV, anyV] at hd); simp only [putAll, List.take_succ_cons, List.take_zero, List.drop_succ_cons, List.drop_zero, Act.put, List.setIfInBounds_toArray, List.set_cons_zero, List.set_cons_succ, Nat.zero_add, Nat.reduceAdd]; go_simp; exact ⟨Below.refl _ _, rfl⟩
      case r8s6 =>
        intro v W hE hd; simp only [Region.wanted, ↓reduceIte]; (try simp [deps, waitsOn, Region.binds, knowing, isV, ownsV, anyV] at hd); simp only [putAll, List.take_succ_cons, List.take_zero, List.drop_succ_cons, List.drop_zero, Act.put, List.setIfInBounds_toArray, List.set_cons_zero, List.set_cons_succ, Nat.zero_add, Nat.reduceAdd]; go_simp; exact ⟨Below.refl _ _, rfl⟩
      case r8s7 =>
        intro v W hE hd; simp only [Region.wanted, ↓reduceIte]; (try simp [deps, waitsOn, Region.binds, knowing, isV, ownsV, anyV] at hd); simp only [putAll, List.take_succ_cons, List.take_zero, List.drop_succ_cons, List.drop_zero, Act.put, List.setIfInBounds_toArray, List.set_cons_zero, List.set_cons_succ, Nat.zero_add, Nat.reduceAdd]; go_simp; exact ⟨Below.refl _ _, rfl⟩
      case r8s8 =>
        intro v W hE hd; simp only [Region.wanted, ↓reduceIte]; (try simp [deps, waitsOn, Region.binds, knowing, isV, ownsV, anyV] at hd); simp only [putAll, List.take_succ_cons, List.take_zero, List.drop_succ_cons, List.drop_zero, Act.put, List.setIfInBounds_toArray, List.set_cons_zero, List.set_cons_succ, Nat.zero_add, Nat.reduceAdd]
        have e1 := cell_below hE HD3.out.quota
        go_simp
        exact ⟨Below.refl _ _, rfl⟩
      case r8s9 =>
        intro v W hE hd; simp only [Region.wanted, ↓reduceIte]; (try simp [deps, waitsOn, Region.binds, knowing, isV, ownsV, anyV] at hd); simp only [putAll, List.take_succ_cons, List.take_zero, List.drop_succ_cons, List.drop_zero, Act.put, List.setIfInBounds_toArray, List.set_cons_zero, List.set_cons_succ, Nat.zero_add, Nat.reduceAdd]; go_simp; exact ⟨Below.refl _ _, rfl⟩
      case r8s10 =>
        intro v W hE hd; simp only [Region.wanted, ↓reduceIte]; (try simp [deps, waitsOn, Region.binds, knowing, isV, ownsV, anyV] at hd); simp only [putAll, List.take_succ_cons, List.take_zero, List.drop_succ_cons, List.drop_zero, Act.put, List.setIfInBounds_toArray, List.set_cons_zero, List.set_cons_succ, Nat.zero_add, Nat.reduceAdd]; go_simp; exact ⟨Below.refl _ _, rfl⟩
    · rintro v W hE ⟨-, -, -, -, -, -, -, -, -, -, e10, -⟩
      have e10 := (show v 10 = _ from e10)
      simp only [putAll, List.take_succ_cons, List.take_zero, List.drop_succ_cons, List.drop_zero, Act.put, List.setIfInBounds_toArray, List.set_cons_zero, List.set_cons_succ, Nat.zero_add, Nat.reduceAdd]
      rw [e10]
      have HD5 := hid (HD3.out.ext hE)
      have HM5 := hid (HM3.out.ext hE)
      have HK5 := hid (HK3.out.trans (Kept2.of_ext hE))
      have HH5 := hid (HH.out.kept HK5.out hd hm)
      have Hf05 := hid (cell_below (Ext.trans' HB3.out hE) Hf0.out)
      have Hf15 := hid (cell_below (Ext.trans' HB3.out hE) Hf1.out)
      have Hr05 := hid (Hr0.out.kept (Kept2.of_ext (d := d) (m := m) (Ext.trans' (Ext.trans' HEA.out HB3.out) hE)) hd hm)
      have HA5 := hid (HA.out.kept HK5.out hd2 hm2)
      clear hE e10
      by_cases hsp : q < (total G : Int) + (n : Int)
      · rw [decide_eq_true hsp]
        have E3 := hid (show appE q l F nm bs = 10 by unfold appE; rw [if_neg h0, if_neg (by rw [Hmay.out]; decide), if_neg (by rw [Hold.out, ← Hn.out]; show ¬ (65536 < b0.length + n ∨ _); rw [← Hn0.out]; have := hlc.out; rintro (h | h) <;> first | omega | exact Hat.out h.1), if_pos (by rw [← Hn.out, ← HT.out]; exact hsp)])
        have E4 := hid (show appF q l F nm bs = F by unfold appF; rw [E3.out]; rfl)
        clear hsp
        go_wp2
        go_ret
        exact ⟨by rw [E3.out]; rfl, HD5.out, ⟨_, HM5.out, by rw [E4.out]; exact HH5.out⟩, HK5.out⟩
      rw [decide_eq_false hsp]
      have E3 := hid (show appE q l F nm bs = 0 by unfold appE; rw [if_neg h0, if_neg (by rw [Hmay.out]; decide), if_neg (by rw [Hold.out, ← Hn.out]; show ¬ (65536 < b0.length + n ∨ _); rw [← Hn0.out]; have := hlc.out; rintro (h | h) <;> first | omega | exact Hat.out h.1), if_neg (by rw [← Hn.out, ← HT.out]; exact hsp)])
      have E4 := hid (show appF q l F nm bs = putF nm ⟨b0 ++ bs, sf⟩ F by unfold appF; rw [E3.out, Hold.out]; rfl)
      clear hsp
      go_wp2_with fail
      apply wp_drawn_last 13 [isV _, isV _, isV _, isV _, isV _, isV _, isV _, isV _, twoAt (.slice A0 n0 c0) (.slice A n c), ownsV w.heap.size (b0 ++ bs), isV _, isV _, fileOf w.heap.size (b0 ++ bs) (sf : Int)] (by decide) (by kernel_rfl)
      · kernel_rfl
      · kernel_rfl
      · refine ⟨?r10s0, ?r10s1, ?r10s2, ?r10s3, ?r10s4, ?r10s5, ?r10s6, ?r10s7, ?r10s8, ?r10s9, ?r10s10, ?r10s11, ?r10s12, trivial⟩
        case r10s0 =>
          intro v W hE hd; simp only [Region.wanted, ↓reduceIte]; (try simp [deps, waitsOn, Region.binds, knowing, isV, ownsV, anyV] at hd); simp only [putAll, List.take_succ_cons, List.take_zero, List.drop_succ_cons, List.drop_zero, Act.put, List.setIfInBounds_toArray, List.set_cons_zero, List.set_cons_succ, Nat.zero_add, Nat.reduceAdd]; go_simp; exact ⟨Below.refl _ _, rfl⟩
        case r10s1 =>
          intro v W hE hd; simp only [Region.wanted, ↓reduceIte]; (try simp [deps, waitsOn, Region.binds, knowing, isV, ownsV, anyV] at hd); simp only [putAll, List.take_succ_cons, List.take_zero, List.drop_succ_cons, List.drop_zero, Act.put, List.setIfInBounds_toArray, List.set_cons_zero, List.set_cons_succ, Nat.zero_add, Nat.reduceAdd]; go_simp; exact ⟨Below.refl _ _, rfl⟩
        case r10s2 =>
          intro v W hE hd; simp only [Region.wanted, ↓reduceIte]; (try simp [deps, waitsOn, Region.binds, knowing, isV, ownsV, anyV] at hd); simp only [putAll, List.take_succ_cons, List.take_zero, List.drop_succ_cons, List.drop_zero, Act.put, List.setIfInBounds_toArray, List.set_cons_zero, List.set_cons_succ, Nat.zero_add, Nat.reduceAdd]; go_simp; exact ⟨Below.refl _ _, rfl⟩
        case r10s3 =>
          intro v W hE hd; simp only [Region.wanted, ↓reduceIte]; (try simp [deps, waitsOn, Region.binds, knowing, isV, ownsV, anyV] at hd); simp only [putAll, List.take_succ_cons, List.take_zero, List.drop_succ_cons, List.drop_zero, Act.put, List.setIfInBounds_toArray, List.set_cons_zero, List.set_cons_succ, Nat.zero_add, Nat.reduceAdd]
          have e1 := cell_below hE HD5.out.files
          go_simp
          exact ⟨Below.refl _ _, rfl⟩
        case r10s4 =>
          intro v W hE hd; simp only [Region.wanted, ↓reduceIte]; (try simp [deps, waitsOn, Region.binds, knowing, isV, ownsV, anyV] at hd); simp only [putAll, List.take_succ_cons, List.take_zero, List.drop_succ_cons, List.drop_zero, Act.put, List.setIfInBounds_toArray, List.set_cons_zero, List.set_cons_succ, Nat.zero_add, Nat.reduceAdd]; go_simp; exact ⟨Below.refl _ _, rfl⟩
        case r10s5 =>
          intro v W hE hd; simp only [Region.wanted, ↓reduceIte]; (try simp [deps, waitsOn, Region.binds, knowing, isV, ownsV, anyV] at hd); simp only [putAll, List.take_succ_cons, List.take_zero, List.drop_succ_cons, List.drop_zero, Act.put, List.setIfInBounds_toArray, List.set_cons_zero, List.set_cons_succ, Nat.zero_add, Nat.reduceAdd]; go_simp; exact ⟨Below.refl _ _, rfl⟩
        case r10s6 =>
          intro v W hE hd; simp only [Region.wanted, ↓reduceIte]; (try simp [deps, waitsOn, Region.binds, knowing, isV, ownsV, anyV] at hd); simp only [putAll, List.take_succ_cons, List.take_zero, List.drop_succ_cons, List.drop_zero, Act.put, List.setIfInBounds_toArray, List.set_cons_zero, List.set_cons_succ, Nat.zero_add, Nat.reduceAdd]
          have e1 := cell_below hE Hf05.out
          go_simp
          exact ⟨Below.refl _ _, rfl⟩
        case r10s7 =>
          intro v W hE hd; simp only [Region.wanted, ↓reduceIte]; (try simp [deps, waitsOn, Region.binds, knowing, isV, ownsV, anyV] at hd); simp only [putAll, List.take_succ_cons, List.take_zero, List.drop_succ_cons, List.drop_zero, Act.put, List.setIfInBounds_toArray, List.set_cons_zero, List.set_cons_succ, Nat.zero_add, Nat.reduceAdd]; go_simp; exact ⟨Below.refl _ _, rfl⟩
        case r10s8 =>
          intro v W hE hd; simp only [Region.wanted, ↓reduceIte]; (try simp [deps, waitsOn, Region.binds, knowing, isV, ownsV, anyV] at hd); simp only [putAll, List.take_succ_cons, List.take_zero, List.drop_succ_cons, List.drop_zero, Act.put, List.setIfInBounds_toArray, List.set_cons_zero, List.set_cons_succ, Nat.zero_add, Nat.reduceAdd]
          go_simp
          exact ⟨(Below.refl _ _).alloc (Nat.le_refl _) _, _, rfl, by rw [cell_of_row _ _ _ _ _ _ (heap_alloc_last _ _)]; rfl, by rw [cell_of_row _ _ _ _ _ _ (heap_alloc_last _ _)]; rfl⟩
        case r10s9 =>
          intro v W hE hd; simp only [Region.wanted, ↓reduceIte]; (try simp [deps, waitsOn, Region.binds, knowing, isV, ownsV, anyV] at hd); simp only [putAll, List.take_succ_cons, List.take_zero, List.drop_succ_cons, List.drop_zero, Act.put, List.setIfInBounds_toArray, List.set_cons_zero, List.set_cons_succ, Nat.zero_add, Nat.reduceAdd]
          obtain ⟨g, e1, e2, e3⟩ := hd
          have E2 := hid e2; have E3' := hid e3; clear e2 e3
          go_simp
          refine (concat_at g A0 n0 c0 b0 A n c bs W Hn0.out Hn.out (by omega) (by omega) (RK.rv Hr05.out |>.below hE) (RK.rv HA5.out |>.below hE) E2.out E3'.out).mono ?_
          rintro e w6 ⟨v6, rfl, hO6, hB6⟩
          have HO := hid hO6; have HB := hid hB6; clear hO6 hB6
          go_simp
          exact ⟨HB.out, HO.out.base (Nat.le_trans HK5.out.size hE.size)⟩
        case r10s10 =>
          intro v W hE hd; simp only [Region.wanted, ↓reduceIte]; (try simp [deps, waitsOn, Region.binds, knowing, isV, ownsV, anyV] at hd); simp only [putAll, List.take_succ_cons, List.take_zero, List.drop_succ_cons, List.drop_zero, Act.put, List.setIfInBounds_toArray, List.set_cons_zero, List.set_cons_succ, Nat.zero_add, Nat.reduceAdd]; go_simp; exact ⟨Below.refl _ _, rfl⟩
        case r10s11 =>
          intro v W hE hd; simp only [Region.wanted, ↓reduceIte]; (try simp [deps, waitsOn, Region.binds, knowing, isV, ownsV, anyV] at hd); simp only [putAll, List.take_succ_cons, List.take_zero, List.drop_succ_cons, List.drop_zero, Act.put, List.setIfInBounds_toArray, List.set_cons_zero, List.set_cons_succ, Nat.zero_add, Nat.reduceAdd]
          have e1 := cell_below hE Hf15.out
          go_simp
          exact ⟨Below.refl _ _, rfl⟩
        case r10s12 =>
          intro v W hE hd; simp only [Region.wanted, ↓reduceIte]; (try simp [deps, waitsOn, Region.binds, knowing, isV, ownsV, anyV] at hd); simp only [putAll, List.take_succ_cons, List.take_zero, List.drop_succ_cons, List.drop_zero, Act.put, List.setIfInBounds_toArray, List.set_cons_zero, List.set_cons_succ, Nat.zero_add, Nat.reduceAdd]
          obtain ⟨h9, h11⟩ := hd
          obtain ⟨A9, c9, e9, -, -⟩ := OB.read h9
          rw [e9] at h9
          obtain ⟨k, hk⟩ : ∃ k, k = (b0 ++ bs).length := ⟨_, rfl⟩
          rw [← hk] at e9 h9
          have H9 := hid h9; clear h9 hk
          go_simp
          exact ⟨Below.refl _ _, _, rfl, H9.out⟩
      · rintro v W hE ⟨-, -, -, e3, e4, -, -, -, -, -, -, -, e12, -⟩
        have e3 := (show v 3 = _ from e3)
        have e4 := (show v 4 = _ from e4)
        have e12 := (show _ from e12)
        simp only [putAll, List.take_succ_cons, List.take_zero, List.drop_succ_cons, List.drop_zero, Act.put, List.setIfInBounds_toArray, List.set_cons_zero, List.set_cons_succ, Nat.zero_add, Nat.reduceAdd]
        obtain ⟨x, e12, hO⟩ := e12
        obtain ⟨Ax, cx, ex, hFV⟩ := FileV.made hO HS.out (show sf ≤ (b0 ++ bs).length by have := Hn0.out; simp; omega) (by have := hlc.out; have := Hn0.out; have := Hn.out; simp; omega)
        obtain ⟨k, hk⟩ : ∃ k, k = (b0 ++ bs).length := ⟨_, rfl⟩
        rw [← hk] at ex hFV
        subst ex
        have HFV := hid hFV; clear hFV hO hk
        rw [e3, e4, e12]
        have HD6 := hid (HD5.out.ext hE)
        have HM6 := hid (HM5.out.ext hE)
        have HK6 := hid (HK5.out.trans (Kept2.of_ext hE))
        have HH6 := hid (HH.out.kept HK6.out hd hm)
        obtain ⟨w7, hrun, hM7, ht7⟩ := HM6.out.store nm (.agg #[.slice Ax k cx, .int .i64 (sf : Int)]) rfl hn (by have := HGl.out; omega)
        have HM7 := hid hM7; have Ht7 := hid ht7.grown
        clear e3 e4 e12 hM7 ht7 hE
        go_wp2
        go_ret
        have hk := Kept2.of_grown (d := d) Ht7.out (.inr rfl)
        exact ⟨by rw [E3.out]; rfl, HD6.out.of_block (Ht7.out.block d HD6.out.lt (fun e => hne (by simpa using e))), ⟨_, HM7.out, by rw [E4.out]; exact (HH6.out.put HFV.out).kept hk hd hm⟩, HK6.out.trans hk⟩
end Go.Proofs.YtpipmkaljkhgiaaDoor
