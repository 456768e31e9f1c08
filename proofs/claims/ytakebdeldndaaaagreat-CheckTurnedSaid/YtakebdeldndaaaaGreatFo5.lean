/- A record is folded. -/
import Derived.Test.YtakebdeldndaaaaGreatFoa
import Derived.Handy
namespace Go.Proofs.YtakebdeldndaaaaGreat
open Go Go.RowKit
set_option linter.unusedSimpArgs false
set_option linter.unusedVariables false

/-- A record's value. -/
def recVal (p v : Int) (A : Option Addr) (n c : Nat) (B : Option Addr) (m d : Nat) (e : EvV) : Value := .agg #[.int .i64 p, .int .i64 v, .string (str e.st), .string (str e.ty), .slice A n c, .slice B m d]
def stepF (d : DefV) (e : EvV) (D : Ents) : Int × Ents := if d.kind = 2 then sumF d e D else if d.kind = 3 then (0, latestF d e D) else if d.kind = 4 then (0, membersF d e.st e.tags D) else (0, countF d [] D)
def StepF (d : DefV) (e : EvV) (D : Ents) : Int × Ents := if matchQ d.q e = true then stepF d e D else (0, D)
set_option maxRecDepth 100000 in
set_option maxHeartbeats 4000000 in
theorem step_at {w : World} {S : Nat → Prop} {s m : Nat} {df : DefV} {D : Ents} (h : StIs w S s m (kdVal df) df.q D) {A B : Option Addr} {n c k d : Nat} {e : EvV} {p vr : Int} (hev : EvS w S A n c B k d e) (hsm : SmallE e) (hD : D.length + 1000 < 1000000) (hf : FitB 2305843009213693952 D) :
    Calls Tryz.prog 43 #[.pointer (some ⟨s, 0, none⟩), recVal p vr A n c B k d e] w fun x w' => x = .returned (.int .i64 (StepF df e D).1) ∧ StIs w' S s m (kdVal df) df.q (StepF df e D).2 ∧ Kept2 s m w w' := by
  unfold recVal
  have HE0 := hid (ext_alloc w (.cells #[.int .i64 p, .int .i64 vr, .string (str e.st), .string (str e.ty), .slice A n c, .slice B k d] 65))
  have Hbx := hid (show (w.alloc (.cells #[.int .i64 p, .int .i64 vr, .string (str e.st), .string (str e.ty), .slice A n c, .slice B k d] 65)).heap[w.heap.size]? = some (.cells #[.int .i64 p, .int .i64 vr, .string (str e.st), .string (str e.ty), .slice A n c, .slice B k d] 65) from heap_alloc_last _ _)
  have HSt := hid (h.ext HE0.out)
  have HEv := hid (hev.ext HE0.out)
  have Hlt := hid h.lt
  have Hfit := hid hf
  clear h hev hf
  go_enter Tryz.func43, Tryz.ntmps43
  go_wp2_with fail
  obtain ⟨Aq, cq, c0, c1, c2, hq⟩ := HSt.out.cells
  have Hc0 := hid c0; have Hc1 := hid c1; have Hq := hid hq
  clear c0 c1 c2 hq
  generalize hw0 : w.alloc (.cells #[.int .i64 p, .int .i64 vr, .string (str e.st), .string (str e.ty), .slice A n c, .slice B k d] 65) = w0 at *
  have Hqn := hid (show df.q.length = df.q.length from rfl)
  generalize hqn : df.q.length = nq at Hc1 Hq
  clear hqn hw0
  have Hcells := hid (show ∀ W, Ext w0 W → W.cell? ⟨w.heap.size, 2, none⟩ = some (.string (str e.st)) ∧ W.cell? ⟨w.heap.size, 3, none⟩ = some (.string (str e.ty)) ∧ W.cell? ⟨w.heap.size, 4, none⟩ = some (.slice A n c) ∧ W.cell? ⟨w.heap.size, 5, none⟩ = some (.slice B k d) from fun W hE => by
    refine ⟨?_, ?_, ?_, ?_⟩ <;> · refine cell_below hE ?_; rw [cell_of_row _ _ _ _ _ _ Hbx.out]; rfl)
  apply wp_drawn [isV _, isV _, isV _, isV _, isV _, isV _, isV (.bool (matchQ df.q e)), isV (.bool (!(matchQ df.q e)))] (by kernel_rfl)
  · kernel_rfl
  · refine ⟨?q1s0, ?q1s1, ?q1s2, ?q1s3, ?q1s4, ?q1s5, ?q1s6, ?q1s7, trivial⟩
    case q1s0 =>
      intro v W hE hd; simp only [Region.wanted, ↓reduceIte]; (try simp [deps, waitsOn, Region.binds, knowing, isV, ownsV, anyV] at hd); simp only [putAll, List.take_succ_cons, List.take_zero, List.drop_succ_cons, List.drop_zero, Act.put, List.setIfInBounds_toArray, List.set_cons_zero, List.set_cons_succ, Nat.zero_add, Nat.reduceAdd]; go_simp; exact ⟨Below.refl _ _, rfl⟩
    case q1s1 =>
      intro v W hE hd; simp only [Region.wanted, ↓reduceIte]; (try simp [deps, waitsOn, Region.binds, knowing, isV, ownsV, anyV] at hd); simp only [putAll, List.take_succ_cons, List.take_zero, List.drop_succ_cons, List.drop_zero, Act.put, List.setIfInBounds_toArray, List.set_cons_zero, List.set_cons_succ, Nat.zero_add, Nat.reduceAdd]; go_simp; exact ⟨Below.refl _ _, rfl⟩
    case q1s2 =>
      intro v W hE hd; simp only [Region.wanted, ↓reduceIte]; (try simp [deps, waitsOn, Region.binds, knowing, isV, ownsV, anyV] at hd); simp only [putAll, List.take_succ_cons, List.take_zero, List.drop_succ_cons, List.drop_zero, Act.put, List.setIfInBounds_toArray, List.set_cons_zero, List.set_cons_succ, Nat.zero_add, Nat.reduceAdd]; go_simp; exact ⟨Below.refl _ _, rfl⟩
    case q1s3 =>
      intro v W hE hd; simp only [Region.wanted, ↓reduceIte]; (try simp [deps, waitsOn, Region.binds, knowing, isV, ownsV, anyV] at hd); simp only [putAll, List.take_succ_cons, List.take_zero, List.drop_succ_cons, List.drop_zero, Act.put, List.setIfInBounds_toArray, List.set_cons_zero, List.set_cons_succ, Nat.zero_add, Nat.reduceAdd]
      have e1 := cell_below hE Hc1.out
      go_simp
      exact ⟨Below.refl _ _, rfl⟩
    case q1s4 =>
      intro v W hE hd; simp only [Region.wanted, ↓reduceIte]; (try simp [deps, waitsOn, Region.binds, knowing, isV, ownsV, anyV] at hd); simp only [putAll, List.take_succ_cons, List.take_zero, List.drop_succ_cons, List.drop_zero, Act.put, List.setIfInBounds_toArray, List.set_cons_zero, List.set_cons_succ, Nat.zero_add, Nat.reduceAdd]; go_simp; exact ⟨Below.refl _ _, rfl⟩
    case q1s5 =>
      intro v W hE hd; simp only [Region.wanted, ↓reduceIte]; (try simp [deps, waitsOn, Region.binds, knowing, isV, ownsV, anyV] at hd); simp only [putAll, List.take_succ_cons, List.take_zero, List.drop_succ_cons, List.drop_zero, Act.put, List.setIfInBounds_toArray, List.set_cons_zero, List.set_cons_succ, Nat.zero_add, Nat.reduceAdd]
      obtain ⟨f0, f1, f2, f3⟩ := Hcells.out W hE
      go_simp
      exact ⟨Below.refl _ _, rfl⟩
    case q1s6 =>
      intro v W hE hd; simp only [Region.wanted, ↓reduceIte]; (try simp [deps, waitsOn, Region.binds, knowing, isV, ownsV, anyV] at hd); simp only [putAll, List.take_succ_cons, List.take_zero, List.drop_succ_cons, List.drop_zero, Act.put, List.setIfInBounds_toArray, List.set_cons_zero, List.set_cons_succ, Nat.zero_add, Nat.reduceAdd]
      go_simp
      have hcc := match_at (slR_out (slR_more Hq.out hE (fun _ hk => .inl hk))) (HEv.out.ext hE).is
      unfold evVal at hcc
      refine hcc.mono ?_
      rintro x w' ⟨rfl, hE2⟩
      have HE2 := hid hE2
      clear hE2 hcc
      go_simp
      exact ⟨HE2.out, rfl⟩
    case q1s7 =>
      intro v W hE hd; simp only [Region.wanted, ↓reduceIte]; (try simp [deps, waitsOn, Region.binds, knowing, isV, ownsV, anyV] at hd); simp only [putAll, List.take_succ_cons, List.take_zero, List.drop_succ_cons, List.drop_zero, Act.put, List.setIfInBounds_toArray, List.set_cons_zero, List.set_cons_succ, Nat.zero_add, Nat.reduceAdd]
      go_simp
      exact ⟨Below.refl _ _, rfl⟩
  · rintro v W9 hE ⟨-, -, -, -, -, -, -, e7, -⟩
    have e7 := (show v 7 = _ from e7)
    simp only [putAll, List.take_succ_cons, List.take_zero, List.drop_succ_cons, List.drop_zero, Act.put, List.setIfInBounds_toArray, List.set_cons_zero, List.set_cons_succ, Nat.zero_add, Nat.reduceAdd]
    rw [e7]
    have HE9 := hid hE
    clear e7 hE
    cases hm : matchQ df.q e
    · have hr := hid (show StepF df e D = (0, D) by unfold StepF; rw [if_neg (by rw [hm]; decide)])
      go_wp2
      go_ret
      exact ⟨by rw [hr.out]; rfl, by rw [hr.out]; exact HSt.out.ext HE9.out, Kept2.of_ext (Ext.trans' HE0.out HE9.out)⟩
    have hr0 := hid (show StepF df e D = stepF df e D by unfold StepF; rw [if_pos hm])
    clear hm
    by_cases h2 : df.kind = 2
    · have hkd : kdVal df = .iface 159 (.agg #[.string (str df.field)]) := by unfold kdVal; rw [if_pos h2]
      have hr := hid (show StepF df e D = sumF df e D by rw [hr0.out]; unfold stepF; rw [if_pos h2])
      clear h2
      rw [hkd] at Hc0
      have Hkd := hid hkd
      clear hkd
      go_wp2_with fail
      apply wp_drawn_last 7 [isV _, isV _, isV _, isV (.iface 159 (.agg #[.string (str df.field)])), isV _, isV _, isV _] (by decide) (by kernel_rfl)
      · kernel_rfl
      · kernel_rfl
      · refine ⟨?q3s0, ?q3s1, ?q3s2, ?q3s3, ?q3s4, ?q3s5, ?q3s6, trivial⟩
        case q3s0 =>
          intro v W hE hd; simp only [Region.wanted, ↓reduceIte]; (try simp [deps, waitsOn, Region.binds, knowing, isV, ownsV, anyV] at hd); simp only [putAll, List.take_succ_cons, List.take_zero, List.drop_succ_cons, List.drop_zero, Act.put, List.setIfInBounds_toArray, List.set_cons_zero, List.set_cons_succ, Nat.zero_add, Nat.reduceAdd]; go_simp; exact ⟨Below.refl _ _, rfl⟩
        case q3s1 =>
          intro v W hE hd; simp only [Region.wanted, ↓reduceIte]; (try simp [deps, waitsOn, Region.binds, knowing, isV, ownsV, anyV] at hd); simp only [putAll, List.take_succ_cons, List.take_zero, List.drop_succ_cons, List.drop_zero, Act.put, List.setIfInBounds_toArray, List.set_cons_zero, List.set_cons_succ, Nat.zero_add, Nat.reduceAdd]; go_simp; exact ⟨Below.refl _ _, rfl⟩
        case q3s2 =>
          intro v W hE hd; simp only [Region.wanted, ↓reduceIte]; (try simp [deps, waitsOn, Region.binds, knowing, isV, ownsV, anyV] at hd); simp only [putAll, List.take_succ_cons, List.take_zero, List.drop_succ_cons, List.drop_zero, Act.put, List.setIfInBounds_toArray, List.set_cons_zero, List.set_cons_succ, Nat.zero_add, Nat.reduceAdd]; go_simp; exact ⟨Below.refl _ _, rfl⟩
        case q3s3 =>
          intro v W hE hd; simp only [Region.wanted, ↓reduceIte]; (try simp [deps, waitsOn, Region.binds, knowing, isV, ownsV, anyV] at hd); simp only [putAll, List.take_succ_cons, List.take_zero, List.drop_succ_cons, List.drop_zero, Act.put, List.setIfInBounds_toArray, List.set_cons_zero, List.set_cons_succ, Nat.zero_add, Nat.reduceAdd]
          have e1 := cell_below (Ext.trans' HE9.out hE) Hc0.out
          go_simp
          exact ⟨Below.refl _ _, rfl⟩
        case q3s4 =>
          intro v W hE hd; simp only [Region.wanted, ↓reduceIte]; (try simp [deps, waitsOn, Region.binds, knowing, isV, ownsV, anyV] at hd); simp only [putAll, List.take_succ_cons, List.take_zero, List.drop_succ_cons, List.drop_zero, Act.put, List.setIfInBounds_toArray, List.set_cons_zero, List.set_cons_succ, Nat.zero_add, Nat.reduceAdd]; go_simp; exact ⟨Below.refl _ _, rfl⟩
        case q3s5 =>
          intro v W hE hd; simp only [Region.wanted, ↓reduceIte]; (try simp [deps, waitsOn, Region.binds, knowing, isV, ownsV, anyV] at hd); simp only [putAll, List.take_succ_cons, List.take_zero, List.drop_succ_cons, List.drop_zero, Act.put, List.setIfInBounds_toArray, List.set_cons_zero, List.set_cons_succ, Nat.zero_add, Nat.reduceAdd]; go_simp; exact ⟨Below.refl _ _, rfl⟩
        case q3s6 =>
          intro v W hE hd; simp only [Region.wanted, ↓reduceIte]; (try simp [deps, waitsOn, Region.binds, knowing, isV, ownsV, anyV] at hd); simp only [putAll, List.take_succ_cons, List.take_zero, List.drop_succ_cons, List.drop_zero, Act.put, List.setIfInBounds_toArray, List.set_cons_zero, List.set_cons_succ, Nat.zero_add, Nat.reduceAdd]
          obtain ⟨f0, f1, f2, f3⟩ := Hcells.out W (Ext.trans' HE9.out hE)
          go_simp
          exact ⟨Below.refl _ _, rfl⟩
      · rintro v W10 hE ⟨-, -, -, e3, e4, -, e6, -⟩
        have e3 := (show v 3 = _ from e3)
        have e4 := (show v 4 = _ from e4)
        have e6 := (show v 6 = _ from e6)
        simp only [putAll, List.take_succ_cons, List.take_zero, List.drop_succ_cons, List.drop_zero, Act.put, List.setIfInBounds_toArray, List.set_cons_zero, List.set_cons_succ, Nat.zero_add, Nat.reduceAdd]
        rw [e3, e4, e6]
        have HEt := hid (Ext.trans' HE9.out hE)
        clear e3 e4 e6 hE
        have hcc := sumStep_at (df := df) (HSt.out.ext HEt.out) (HEv.out.ext HEt.out) hsm (by omega) Hfit.out
        unfold evVal at hcc
        go_wp2_with fail
        refine hcc.mono ?_
        clear hcc
        rintro x w' ⟨rfl, hS, hK⟩
        have HS := hid hS; have HK := hid ((Kept2.of_ext (d := s) (m := m) (Ext.trans' HE0.out HEt.out)).trans hK)
        clear hS hK
        go_wp2
        go_ret
        exact ⟨by rw [hr.out]; rfl, by rw [hr.out]; exact HS.out, HK.out⟩
    by_cases h3 : df.kind = 3
    · have hkd : kdVal df = .iface 160 (.agg #[.string (str df.field)]) := by unfold kdVal; rw [if_neg h2, if_pos h3]
      have hr := hid (show StepF df e D = (0, latestF df e D) by rw [hr0.out]; unfold stepF; rw [if_neg h2, if_pos h3])
      clear h2 h3
      rw [hkd] at Hc0
      have Hkd := hid hkd
      clear hkd
      go_wp2_with fail
      apply wp_drawn_last 7 [isV _, isV _, isV _, isV (.iface 160 (.agg #[.string (str df.field)])), isV _, isV _, isV _] (by decide) (by kernel_rfl)
      · kernel_rfl
      · kernel_rfl
      · refine ⟨?q3s0, ?q3s1, ?q3s2, ?q3s3, ?q3s4, ?q3s5, ?q3s6, trivial⟩
        case q3s0 =>
          intro v W hE hd; simp only [Region.wanted, ↓reduceIte]; (try simp [deps, waitsOn, Region.binds, knowing, isV, ownsV, anyV] at hd); simp only [putAll, List.take_succ_cons, List.take_zero, List.drop_succ_cons, List.drop_zero, Act.put, List.setIfInBounds_toArray, List.set_cons_zero, List.set_cons_succ, Nat.zero_add, Nat.reduceAdd]; go_simp; exact ⟨Below.refl _ _, rfl⟩
        case q3s1 =>
          intro v W hE hd; simp only [Region.wanted, ↓reduceIte]; (try simp [deps, waitsOn, Region.binds, knowing, isV, ownsV, anyV] at hd); simp only [putAll, List.take_succ_cons, List.take_zero, List.drop_succ_cons, List.drop_zero, Act.put, List.setIfInBounds_toArray, List.set_cons_zero, List.set_cons_succ, Nat.zero_add, Nat.reduceAdd]; go_simp; exact ⟨Below.refl _ _, rfl⟩
        case q3s2 =>
          intro v W hE hd; simp only [Region.wanted, ↓reduceIte]; (try simp [deps, waitsOn, Region.binds, knowing, isV, ownsV, anyV] at hd); simp only [putAll, List.take_succ_cons, List.take_zero, List.drop_succ_cons, List.drop_zero, Act.put, List.setIfInBounds_toArray, List.set_cons_zero, List.set_cons_succ, Nat.zero_add, Nat.reduceAdd]; go_simp; exact ⟨Below.refl _ _, rfl⟩
        case q3s3 =>
          intro v W hE hd; simp only [Region.wanted, ↓reduceIte]; (try simp [deps, waitsOn, Region.binds, knowing, isV, ownsV, anyV] at hd); simp only [putAll, List.take_succ_cons, List.take_zero, List.drop_succ_cons, List.drop_zero, Act.put, List.setIfInBounds_toArray, List.set_cons_zero, List.set_cons_succ, Nat.zero_add, Nat.reduceAdd]
          have e1 := cell_below (Ext.trans' HE9.out hE) Hc0.out
          go_simp
          exact ⟨Below.refl _ _, rfl⟩
        case q3s4 =>
          intro v W hE hd; simp only [Region.wanted, ↓reduceIte]; (try simp [deps, waitsOn, Region.binds, knowing, isV, ownsV, anyV] at hd); simp only [putAll, List.take_succ_cons, List.take_zero, List.drop_succ_cons, List.drop_zero, Act.put, List.setIfInBounds_toArray, List.set_cons_zero, List.set_cons_succ, Nat.zero_add, Nat.reduceAdd]; go_simp; exact ⟨Below.refl _ _, rfl⟩
        case q3s5 =>
          intro v W hE hd; simp only [Region.wanted, ↓reduceIte]; (try simp [deps, waitsOn, Region.binds, knowing, isV, ownsV, anyV] at hd); simp only [putAll, List.take_succ_cons, List.take_zero, List.drop_succ_cons, List.drop_zero, Act.put, List.setIfInBounds_toArray, List.set_cons_zero, List.set_cons_succ, Nat.zero_add, Nat.reduceAdd]; go_simp; exact ⟨Below.refl _ _, rfl⟩
        case q3s6 =>
          intro v W hE hd; simp only [Region.wanted, ↓reduceIte]; (try simp [deps, waitsOn, Region.binds, knowing, isV, ownsV, anyV] at hd); simp only [putAll, List.take_succ_cons, List.take_zero, List.drop_succ_cons, List.drop_zero, Act.put, List.setIfInBounds_toArray, List.set_cons_zero, List.set_cons_succ, Nat.zero_add, Nat.reduceAdd]
          obtain ⟨f0, f1, f2, f3⟩ := Hcells.out W (Ext.trans' HE9.out hE)
          go_simp
          exact ⟨Below.refl _ _, rfl⟩
      · rintro v W10 hE ⟨-, -, -, e3, e4, -, e6, -⟩
        have e3 := (show v 3 = _ from e3)
        have e4 := (show v 4 = _ from e4)
        have e6 := (show v 6 = _ from e6)
        simp only [putAll, List.take_succ_cons, List.take_zero, List.drop_succ_cons, List.drop_zero, Act.put, List.setIfInBounds_toArray, List.set_cons_zero, List.set_cons_succ, Nat.zero_add, Nat.reduceAdd]
        rw [e3, e4, e6]
        have HEt := hid (Ext.trans' HE9.out hE)
        clear e3 e4 e6 hE
        have hcc := latestStep_at (df := df) (HSt.out.ext HEt.out) (HEv.out.ext HEt.out) hsm (by omega)
        unfold evVal at hcc
        go_wp2_with fail
        refine hcc.mono ?_
        clear hcc
        rintro x w' ⟨rfl, hS, hK⟩
        have HS := hid hS; have HK := hid ((Kept2.of_ext (d := s) (m := m) (Ext.trans' HE0.out HEt.out)).trans hK)
        clear hS hK
        go_wp2
        go_ret
        exact ⟨by rw [hr.out]; rfl, by rw [hr.out]; exact HS.out, HK.out⟩
    by_cases h4 : df.kind = 4
    · have hkd : kdVal df = .iface 162 (.agg #[]) := by unfold kdVal; rw [if_neg h2, if_neg h3, if_pos h4]
      have hr := hid (show StepF df e D = (0, membersF df e.st e.tags D) by rw [hr0.out]; unfold stepF; rw [if_neg h2, if_neg h3, if_pos h4])
      clear h2 h3 h4
      rw [hkd] at Hc0
      have Hkd := hid hkd
      clear hkd
      go_wp2_with fail
      apply wp_drawn_last 7 [isV _, isV _, isV _, isV (.iface 162 (.agg #[])), isV _, isV _, isV _] (by decide) (by kernel_rfl)
      · kernel_rfl
      · kernel_rfl
      · refine ⟨?q3s0, ?q3s1, ?q3s2, ?q3s3, ?q3s4, ?q3s5, ?q3s6, trivial⟩
        case q3s0 =>
          intro v W hE hd; simp only [Region.wanted, ↓reduceIte]; (try simp [deps, waitsOn, Region.binds, knowing, isV, ownsV, anyV] at hd); simp only [putAll, List.take_succ_cons, List.take_zero, List.drop_succ_cons, List.drop_zero, Act.put, List.setIfInBounds_toArray, List.set_cons_zero, List.set_cons_succ, Nat.zero_add, Nat.reduceAdd]; go_simp; exact ⟨Below.refl _ _, rfl⟩
        case q3s1 =>
          intro v W hE hd; simp only [Region.wanted, ↓reduceIte]; (try simp [deps, waitsOn, Region.binds, knowing, isV, ownsV, anyV] at hd); simp only [putAll, List.take_succ_cons, List.take_zero, List.drop_succ_cons, List.drop_zero, Act.put, List.setIfInBounds_toArray, List.set_cons_zero, List.set_cons_succ, Nat.zero_add, Nat.reduceAdd]; go_simp; exact ⟨Below.refl _ _, rfl⟩
        case q3s2 =>
          intro v W hE hd; simp only [Region.wanted, ↓reduceIte]; (try simp [deps, waitsOn, Region.binds, knowing, isV, ownsV, anyV] at hd); simp only [putAll, List.take_succ_cons, List.take_zero, List.drop_succ_cons, List.drop_zero, Act.put, List.setIfInBounds_toArray, List.set_cons_zero, List.set_cons_succ, Nat.zero_add, Nat.reduceAdd]; go_simp; exact ⟨Below.refl _ _, rfl⟩
        case q3s3 =>
          intro v W hE hd; simp only [Region.wanted, ↓reduceIte]; (try simp [deps, waitsOn, Region.binds, knowing, isV, ownsV, anyV] at hd); simp only [putAll, List.take_succ_cons, List.take_zero, List.drop_succ_cons, List.drop_zero, Act.put, List.setIfInBounds_toArray, List.set_cons_zero, List.set_cons_succ, Nat.zero_add, Nat.reduceAdd]
          have e1 := cell_below (Ext.trans' HE9.out hE) Hc0.out
          go_simp
          exact ⟨Below.refl _ _, rfl⟩
        case q3s4 =>
          intro v W hE hd; simp only [Region.wanted, ↓reduceIte]; (try simp [deps, waitsOn, Region.binds, knowing, isV, ownsV, anyV] at hd); simp only [putAll, List.take_succ_cons, List.take_zero, List.drop_succ_cons, List.drop_zero, Act.put, List.setIfInBounds_toArray, List.set_cons_zero, List.set_cons_succ, Nat.zero_add, Nat.reduceAdd]; go_simp; exact ⟨Below.refl _ _, rfl⟩
        case q3s5 =>
          intro v W hE hd; simp only [Region.wanted, ↓reduceIte]; (try simp [deps, waitsOn, Region.binds, knowing, isV, ownsV, anyV] at hd); simp only [putAll, List.take_succ_cons, List.take_zero, List.drop_succ_cons, List.drop_zero, Act.put, List.setIfInBounds_toArray, List.set_cons_zero, List.set_cons_succ, Nat.zero_add, Nat.reduceAdd]; go_simp; exact ⟨Below.refl _ _, rfl⟩
        case q3s6 =>
          intro v W hE hd; simp only [Region.wanted, ↓reduceIte]; (try simp [deps, waitsOn, Region.binds, knowing, isV, ownsV, anyV] at hd); simp only [putAll, List.take_succ_cons, List.take_zero, List.drop_succ_cons, List.drop_zero, Act.put, List.setIfInBounds_toArray, List.set_cons_zero, List.set_cons_succ, Nat.zero_add, Nat.reduceAdd]
          obtain ⟨f0, f1, f2, f3⟩ := Hcells.out W (Ext.trans' HE9.out hE)
          go_simp
          exact ⟨Below.refl _ _, rfl⟩
      · rintro v W10 hE ⟨-, -, -, e3, e4, -, e6, -⟩
        have e3 := (show v 3 = _ from e3)
        have e4 := (show v 4 = _ from e4)
        have e6 := (show v 6 = _ from e6)
        simp only [putAll, List.take_succ_cons, List.take_zero, List.drop_succ_cons, List.drop_zero, Act.put, List.setIfInBounds_toArray, List.set_cons_zero, List.set_cons_succ, Nat.zero_add, Nat.reduceAdd]
        rw [e3, e4, e6]
        have HEt := hid (Ext.trans' HE9.out hE)
        clear e3 e4 e6 hE
        have hcc := membersStep_at (df := df) (HSt.out.ext HEt.out) (HEv.out.ext HEt.out) hsm hD Hfit.out
        unfold evVal at hcc
        go_wp2_with fail
        refine hcc.mono ?_
        clear hcc
        rintro x w' ⟨rfl, hS, hK⟩
        have HS := hid hS; have HK := hid ((Kept2.of_ext (d := s) (m := m) (Ext.trans' HE0.out HEt.out)).trans hK)
        clear hS hK
        go_wp2
        go_ret
        exact ⟨by rw [hr.out]; rfl, by rw [hr.out]; exact HS.out, HK.out⟩
    · have hkd : kdVal df = .iface 163 (.agg #[]) := by unfold kdVal; rw [if_neg h2, if_neg h3, if_neg h4]
      have hr := hid (show StepF df e D = (0, countF df [] D) by rw [hr0.out]; unfold stepF; rw [if_neg h2, if_neg h3, if_neg h4])
      clear h2 h3 h4
      rw [hkd] at Hc0
      have Hkd := hid hkd
      clear hkd
      go_wp2_with fail
      apply wp_drawn_last 7 [isV _, isV _, isV _, isV (.iface 163 (.agg #[])), isV _, isV _, isV _] (by decide) (by kernel_rfl)
      · kernel_rfl
      · kernel_rfl
      · refine ⟨?q3s0, ?q3s1, ?q3s2, ?q3s3, ?q3s4, ?q3s5, ?q3s6, trivial⟩
        case q3s0 =>
          intro v W hE hd; simp only [Region.wanted, ↓reduceIte]; (try simp [deps, waitsOn, Region.binds, knowing, isV, ownsV, anyV] at hd); simp only [putAll, List.take_succ_cons, List.take_zero, List.drop_succ_cons, List.drop_zero, Act.put, List.setIfInBounds_toArray, List.set_cons_zero, List.set_cons_succ, Nat.zero_add, Nat.reduceAdd]; go_simp; exact ⟨Below.refl _ _, rfl⟩
        case q3s1 =>
          intro v W hE hd; simp only [Region.wanted, ↓reduceIte]; (try simp [deps, waitsOn, Region.binds, knowing, isV, ownsV, anyV] at hd); simp only [putAll, List.take_succ_cons, List.take_zero, List.drop_succ_cons, List.drop_zero, Act.put, List.setIfInBounds_toArray, List.set_cons_zero, List.set_cons_succ, Nat.zero_add, Nat.reduceAdd]; go_simp; exact ⟨Below.refl _ _, rfl⟩
        case q3s2 =>
          intro v W hE hd; simp only [Region.wanted, ↓reduceIte]; (try simp [deps, waitsOn, Region.binds, knowing, isV, ownsV, anyV] at hd); simp only [putAll, List.take_succ_cons, List.take_zero, List.drop_succ_cons, List.drop_zero, Act.put, List.setIfInBounds_toArray, List.set_cons_zero, List.set_cons_succ, Nat.zero_add, Nat.reduceAdd]; go_simp; exact ⟨Below.refl _ _, rfl⟩
        case q3s3 =>
          intro v W hE hd; simp only [Region.wanted, ↓reduceIte]; (try simp [deps, waitsOn, Region.binds, knowing, isV, ownsV, anyV] at hd); simp only [putAll, List.take_succ_cons, List.take_zero, List.drop_succ_cons, List.drop_zero, Act.put, List.setIfInBounds_toArray, List.set_cons_zero, List.set_cons_succ, Nat.zero_add, Nat.reduceAdd]
          have e1 := cell_below (Ext.trans' HE9.out hE) Hc0.out
          go_simp
          exact ⟨Below.refl _ _, rfl⟩
        case q3s4 =>
          intro v W hE hd; simp only [Region.wanted, ↓reduceIte]; (try simp [deps, waitsOn, Region.binds, knowing, isV, ownsV, anyV] at hd); simp only [putAll, List.take_succ_cons, List.take_zero, List.drop_succ_cons, List.drop_zero, Act.put, List.setIfInBounds_toArray, List.set_cons_zero, List.set_cons_succ, Nat.zero_add, Nat.reduceAdd]; go_simp; exact ⟨Below.refl _ _, rfl⟩
        case q3s5 =>
          intro v W hE hd; simp only [Region.wanted, ↓reduceIte]; (try simp [deps, waitsOn, Region.binds, knowing, isV, ownsV, anyV] at hd); simp only [putAll, List.take_succ_cons, List.take_zero, List.drop_succ_cons, List.drop_zero, Act.put, List.setIfInBounds_toArray, List.set_cons_zero, List.set_cons_succ, Nat.zero_add, Nat.reduceAdd]; go_simp; exact ⟨Below.refl _ _, rfl⟩
        case q3s6 =>
          intro v W hE hd; simp only [Region.wanted, ↓reduceIte]; (try simp [deps, waitsOn, Region.binds, knowing, isV, ownsV, anyV] at hd); simp only [putAll, List.take_succ_cons, List.take_zero, List.drop_succ_cons, List.drop_zero, Act.put, List.setIfInBounds_toArray, List.set_cons_zero, List.set_cons_succ, Nat.zero_add, Nat.reduceAdd]
          obtain ⟨f0, f1, f2, f3⟩ := Hcells.out W (Ext.trans' HE9.out hE)
          go_simp
          exact ⟨Below.refl _ _, rfl⟩
      · rintro v W10 hE ⟨-, -, -, e3, e4, -, e6, -⟩
        have e3 := (show v 3 = _ from e3)
        have e4 := (show v 4 = _ from e4)
        have e6 := (show v 6 = _ from e6)
        simp only [putAll, List.take_succ_cons, List.take_zero, List.drop_succ_cons, List.drop_zero, Act.put, List.setIfInBounds_toArray, List.set_cons_zero, List.set_cons_succ, Nat.zero_add, Nat.reduceAdd]
        rw [e3, e4, e6]
        have HEt := hid (Ext.trans' HE9.out hE)
        clear e3 e4 e6 hE
        have hcc := countStep_at (df := df) (A := A) (B := B) (n := n) (c := c) (k := k) (d := d) (e := e) (HSt.out.ext HEt.out) (by omega) Hfit.out
        unfold evVal at hcc
        go_wp2_with fail
        refine hcc.mono ?_
        clear hcc
        rintro x w' ⟨rfl, hS, hK⟩
        have HS := hid hS; have HK := hid ((Kept2.of_ext (d := s) (m := m) (Ext.trans' HE0.out HEt.out)).trans hK)
        clear hS hK
        go_wp2
        go_ret
        exact ⟨by rw [hr.out]; rfl, by rw [hr.out]; exact HS.out, HK.out⟩
end Go.Proofs.YtakebdeldndaaaaGreat
