/- The reference's Step. -/
import Derived.Test.YtpmmapcjohmniaaGreatRQ4
import Derived.Test.YtpmmapcjohmniaaGreatFoOrd
import Derived.Test.YtpmmapcjohmniaaGreatFoMath
namespace Go.Proofs.YtpmmapcjohmniaaGreat
open Go Go.RowKit
set_option linter.unusedSimpArgs false
set_option linter.unusedVariables false

theorem up_insI {x : List UInt8 × Int} : ∀ {D : Ents}, UpI D → (∀ p ∈ D, p.1 ≠ x.1) → UpI (insI x D)
  | [], _, _ => List.pairwise_singleton _ _
  | y :: r, h, hne => by
    obtain ⟨h1, h2⟩ := List.pairwise_cons.1 h
    unfold insI
    cases hb : bytesBefore x.1 y.1
    · rw [if_neg (by decide)]
      refine List.pairwise_cons.2 ⟨fun z hz => ?_, up_insI h2 fun p hp => hne p (List.mem_cons_of_mem _ hp)⟩
      rcases mem_insI _ _ _ hz with e | hz
      · subst e
        rcases tb_total y.1 z.1 (hne y (by simp)) with h | h
        · exact h
        · rw [h] at hb; cases hb
      · exact h1 z hz
    · rw [if_pos rfl]
      refine List.pairwise_cons.2 ⟨fun z hz => ?_, h⟩
      rcases List.mem_cons.1 hz with rfl | hz
      · exact hb
      · exact tb_trans hb (h1 z hz)
theorem up_setF {d : DefV} {k : Str} {n : Int} {D : Ents} (h : UpI D) : UpI (setF d k n D) := by
  unfold setF putI
  have hd : UpI (delI k D) := List.Pairwise.filter _ h
  split
  · exact hd
  · exact up_insI hd fun p hp => by
      have := (List.mem_filter.1 hp).2
      simpa using this
theorem set_same {d : DefV} {k : Str} {D : Ents} (hu : UpI D) (h3 : d.kind ≠ 3) (hz : ∀ p ∈ D, p.2 ≠ 0) : setF d k (atI D k) D = D := by
  refine ents_ext (up_setF hu) hu (fun p hp => ?_) hz fun k' => ?_
  · rcases mem_set0 hp with ⟨rfl, h⟩ | hp
    · exact h.elim id fun h => absurd h h3
    · exact hz p hp
  · rw [atI_setF]
    split
    · rename_i e; rw [e]
    · rfl
/-- What entries may be told of. -/
structure OkR (d : DefV) (D : Ents) : Prop where
  up : UpI D
  nz : d.kind ≠ 3 → ∀ p ∈ D, p.2 ≠ 0
  fit : d.kind = 2 → fitsN (atI D []) = true
theorem sum_none {d : DefV} {e : EvV} {D : Ents} (h : OkR d D) (h2 : d.kind = 2) (hv : (valF e.fields d.field).isSome = false) : sumF d e D = (0, D) := by
  have hx : valF e.fields d.field = none := by cases hx : valF e.fields d.field with | none => rfl | some v => rw [hx] at hv; cases hv
  unfold sumF
  rw [hx]
  simp only [Option.getD_none, Int.add_zero, ne_eq, not_true_eq_false, and_false, if_false]
  rw [set_same h.up (by rw [h2]; decide) (h.nz (by rw [h2]; decide))]
theorem sum_over {d : DefV} {e : EvV} {D : Ents} (h : OkR d D) (h2 : d.kind = 2) (hf : fitsN (atI D [] + (valF e.fields d.field).getD 0) = false) : sumF d e D = (4, D) := by
  unfold sumF
  rw [if_pos ⟨hf, fun h0 => by rw [h0, Int.add_zero, h.fit h2] at hf; cases hf⟩]
theorem sum_fits {d : DefV} {e : EvV} {D : Ents} (hf : fitsN (atI D [] + (valF e.fields d.field).getD 0) = true) : sumF d e D = (0, setF d [] (atI D [] + (valF e.fields d.field).getD 0) D) := by
  unfold sumF
  rw [if_neg fun h => by rw [hf] at h; cases h.1]
theorem up_members {d : DefV} {st : Str} : ∀ (ts : List Str) {D : Ents}, UpI D → UpI (membersF d st ts D)
  | [], D, h => h
  | t :: ts, D, h => up_members ts (up_setF h)
theorem RefSt.sIn {w : World} {S : Nat → Prop} {y : Nat} {d : DefV} {D : Ents} (h : RefSt w S y d D) : S y := h.yIn
set_option maxRecDepth 100000 in
set_option maxHeartbeats 8000000 in
theorem refStep_at {w : World} {S : Nat → Prop} {y : Nat} {df : DefV} {D : Ents} (h : RefSt w S y df D) {A B : Option Addr} {n c k d : Nat} {e : EvV} {p vr : Int} (hev : EvS w S A n c B k d e) (hsm : SmallE e) (hD : D.length + 1000 < 1000000) (hf : FitB 2305843009213693952 D) (hok : OkR df D) (hkd : 1 ≤ df.kind ∧ df.kind ≤ 4) (hSlt : ∀ k, S k → k < w.heap.size) :
    Calls Tryz.prog 13 #[.pointer (some ⟨y, 0, none⟩), recVal p vr A n c B k d e] w fun x w' => x = .returned (.int .i64 (StepF df e D).1) ∧ RefSt w' S y df (StepF df e D).2 ∧ Kept2 y y w w' := by
  unfold recVal
  have HE0 := hid (ext_alloc w (.cells #[.int .i64 p, .int .i64 vr, .string (str e.st), .string (str e.ty), .slice A n c, .slice B k d] 47))
  have Hbx := hid (show (w.alloc (.cells #[.int .i64 p, .int .i64 vr, .string (str e.st), .string (str e.ty), .slice A n c, .slice B k d] 47)).heap[w.heap.size]? = some (.cells #[.int .i64 p, .int .i64 vr, .string (str e.st), .string (str e.ty), .slice A n c, .slice B k d] 47) from heap_alloc_last _ _)
  have HSt := hid (h.ext HE0.out)
  have HEv := hid (hev.ext HE0.out)
  have Hslt := hid (show ∀ W, Ext w W → ∀ k, S k → k < W.heap.size from fun W hE k hk => Nat.lt_of_lt_of_le (hSlt k hk) hE.size)
  have Hfit := hid hf
  have Hok := hid hok
  have Hfx := hid (atI_fit hf (by decide) [])
  have Hlt := hid h.lt
  clear h hev hf hok hSlt
  go_enter Tryz.func13, Tryz.ntmps13
  go_wp2_with fail
  obtain ⟨Aq, cq, Bq, bq, y0, y1, y2, y3, hq, -, -⟩ := HSt.out.cells
  have Hy := hid (And.intro y0 (And.intro y1 y2)); have Hq := hid hq
  clear y0 y1 y2 y3 hq
  generalize hw0 : w.alloc (.cells #[.int .i64 p, .int .i64 vr, .string (str e.st), .string (str e.ty), .slice A n c, .slice B k d] 47) = w0 at *
  generalize hqn : df.q.length = nq at Hy Hq
  clear hqn hw0
  have Hcells := hid (show ∀ W, Ext w0 W → W.cell? ⟨w.heap.size, 2, none⟩ = some (.string (str e.st)) ∧ W.cell? ⟨w.heap.size, 3, none⟩ = some (.string (str e.ty)) ∧ W.cell? ⟨w.heap.size, 4, none⟩ = some (.slice A n c) ∧ W.cell? ⟨w.heap.size, 5, none⟩ = some (.slice B k d) from fun W hE => by
    refine ⟨?_, ?_, ?_, ?_⟩ <;> · refine cell_below hE ?_; rw [cell_of_row _ _ _ _ _ _ Hbx.out]; rfl)
  apply wp_drawn [isV _, isV _, isV _, isV _, isV _, isV _, isV _, isV (.bool (matchQ df.q e)), isV (.bool (matchQ df.q e))] (by kernel_rfl)
  · kernel_rfl
  · refine ⟨?q1s0, ?q1s1, ?q1s2, ?q1s3, ?q1s4, ?q1s5, ?q1s6, ?q1s7, ?q1s8, trivial⟩
    case q1s0 =>
      intro v W hE hd; simp only [Region.wanted, ↓reduceIte]; (try simp [deps, waitsOn, Region.binds, knowing, isV, ownsV, anyV] at hd); simp only [putAll, List.take_succ_cons, List.take_zero, List.drop_succ_cons, List.drop_zero, Act.put, List.setIfInBounds_toArray, List.set_cons_zero, List.set_cons_succ, Nat.zero_add, Nat.reduceAdd]; go_simp; exact ⟨Below.refl _ _, rfl⟩
    case q1s1 =>
      intro v W hE hd; simp only [Region.wanted, ↓reduceIte]; (try simp [deps, waitsOn, Region.binds, knowing, isV, ownsV, anyV] at hd); simp only [putAll, List.take_succ_cons, List.take_zero, List.drop_succ_cons, List.drop_zero, Act.put, List.setIfInBounds_toArray, List.set_cons_zero, List.set_cons_succ, Nat.zero_add, Nat.reduceAdd]; go_simp; exact ⟨Below.refl _ _, rfl⟩
    case q1s2 =>
      intro v W hE hd; simp only [Region.wanted, ↓reduceIte]; (try simp [deps, waitsOn, Region.binds, knowing, isV, ownsV, anyV] at hd); simp only [putAll, List.take_succ_cons, List.take_zero, List.drop_succ_cons, List.drop_zero, Act.put, List.setIfInBounds_toArray, List.set_cons_zero, List.set_cons_succ, Nat.zero_add, Nat.reduceAdd]; go_simp; exact ⟨Below.refl _ _, rfl⟩
    case q1s3 =>
      intro v W hE hd; simp only [Region.wanted, ↓reduceIte]; (try simp [deps, waitsOn, Region.binds, knowing, isV, ownsV, anyV] at hd); simp only [putAll, List.take_succ_cons, List.take_zero, List.drop_succ_cons, List.drop_zero, Act.put, List.setIfInBounds_toArray, List.set_cons_zero, List.set_cons_succ, Nat.zero_add, Nat.reduceAdd]; go_simp; exact ⟨Below.refl _ _, rfl⟩
    case q1s4 =>
      intro v W hE hd; simp only [Region.wanted, ↓reduceIte]; (try simp [deps, waitsOn, Region.binds, knowing, isV, ownsV, anyV] at hd); simp only [putAll, List.take_succ_cons, List.take_zero, List.drop_succ_cons, List.drop_zero, Act.put, List.setIfInBounds_toArray, List.set_cons_zero, List.set_cons_succ, Nat.zero_add, Nat.reduceAdd]
      have e1 := cell_below hE Hy.out.2.2
      go_simp
      exact ⟨Below.refl _ _, rfl⟩
    case q1s5 =>
      intro v W hE hd; simp only [Region.wanted, ↓reduceIte]; (try simp [deps, waitsOn, Region.binds, knowing, isV, ownsV, anyV] at hd); simp only [putAll, List.take_succ_cons, List.take_zero, List.drop_succ_cons, List.drop_zero, Act.put, List.setIfInBounds_toArray, List.set_cons_zero, List.set_cons_succ, Nat.zero_add, Nat.reduceAdd]; go_simp; exact ⟨Below.refl _ _, rfl⟩
    case q1s6 =>
      intro v W hE hd; simp only [Region.wanted, ↓reduceIte]; (try simp [deps, waitsOn, Region.binds, knowing, isV, ownsV, anyV] at hd); simp only [putAll, List.take_succ_cons, List.take_zero, List.drop_succ_cons, List.drop_zero, Act.put, List.setIfInBounds_toArray, List.set_cons_zero, List.set_cons_succ, Nat.zero_add, Nat.reduceAdd]
      obtain ⟨f0, f1, f2, f3⟩ := Hcells.out W hE
      go_simp
      exact ⟨Below.refl _ _, rfl⟩
    case q1s7 =>
      intro v W hE hd; simp only [Region.wanted, ↓reduceIte]; (try simp [deps, waitsOn, Region.binds, knowing, isV, ownsV, anyV] at hd); simp only [putAll, List.take_succ_cons, List.take_zero, List.drop_succ_cons, List.drop_zero, Act.put, List.setIfInBounds_toArray, List.set_cons_zero, List.set_cons_succ, Nat.zero_add, Nat.reduceAdd]
      go_simp
      have hcc := refMatch_at (slR_out (slR_more Hq.out hE (fun _ hk => .inl hk))) (HEv.out.ext hE).is
      unfold evVal at hcc
      refine hcc.mono ?_
      rintro x w' ⟨rfl, hE2⟩
      have HE2 := hid hE2
      clear hE2 hcc
      go_simp
      exact ⟨HE2.out, rfl⟩
    case q1s8 =>
      intro v W hE hd; simp only [Region.wanted, ↓reduceIte]; (try simp [deps, waitsOn, Region.binds, knowing, isV, ownsV, anyV] at hd); simp only [putAll, List.take_succ_cons, List.take_zero, List.drop_succ_cons, List.drop_zero, Act.put, List.setIfInBounds_toArray, List.set_cons_zero, List.set_cons_succ, Nat.zero_add, Nat.reduceAdd]
      go_simp
      exact ⟨Below.refl _ _, rfl⟩
  · rintro v W9 hE ⟨-, -, -, -, -, -, -, -, e8, -⟩
    have e8 := (show v 8 = _ from e8)
    simp only [putAll, List.take_succ_cons, List.take_zero, List.drop_succ_cons, List.drop_zero, Act.put, List.setIfInBounds_toArray, List.set_cons_zero, List.set_cons_succ, Nat.zero_add, Nat.reduceAdd]
    rw [e8]
    have HE9 := hid hE
    clear e8 hE
    cases hm : matchQ df.q e
    · have hr := hid (show StepF df e D = (0, D) by unfold StepF; rw [if_neg (by rw [hm]; decide)])
      go_wp2
      go_ret
      exact ⟨by rw [hr.out]; rfl, by rw [hr.out]; exact HSt.out.ext HE9.out, Kept2.of_ext (Ext.trans' HE0.out HE9.out)⟩
    have hr0 := hid (show StepF df e D = stepF df e D by unfold StepF; rw [if_pos hm])
    clear hm
    have Hvs := hid (valF_small hsm df.field)
    have Hnone := hid (fun h2 hv => sum_none (e := e) Hok.out h2 hv)
    have Hover := hid (fun h2 hv => sum_over (e := e) Hok.out h2 hv)
    have Hfits := hid (sum_fits (d := df) (e := e) (D := D))
    have Hlat := hid (show latestF df e D = if (valF e.fields df.field).isSome = true then setF df e.st ((valF e.fields df.field).getD 0) D else D by
      unfold latestF; cases valF e.fields df.field <;> rfl)
    have Hvc := hid (fun W (hE : Ext w0 W) => refValue_at ((HEv.out.ext hE).is) df.field)
    unfold evVal at Hvc
    generalize (valF e.fields df.field).isSome = vb at *
    generalize (valF e.fields df.field).getD 0 = vl at *
    go_wp2_with fail
    apply wp_drawn [isV _, isV _, isV _, isV _, isV _, isV _, isV _, isV (.tuple #[.int .i64 vl, .bool vb]), isV (.tuple #[.int .i64 vl, .bool vb]), isV (.int .i64 vl), isV (.bool vb), isV (.int .i64 vl), isV (.bool vb)] (by kernel_rfl)
    · kernel_rfl
    · refine ⟨?q4s0, ?q4s1, ?q4s2, ?q4s3, ?q4s4, ?q4s5, ?q4s6, ?q4s7, ?q4s8, ?q4s9, ?q4s10, ?q4s11, ?q4s12, trivial⟩
      case q4s0 =>
        intro v W hE hd; simp only [Region.wanted, ↓reduceIte]; (try simp [deps, waitsOn, Region.binds, knowing, isV, ownsV, anyV] at hd); simp only [putAll, List.take_succ_cons, List.take_zero, List.drop_succ_cons, List.drop_zero, Act.put, List.setIfInBounds_toArray, List.set_cons_zero, List.set_cons_succ, Nat.zero_add, Nat.reduceAdd]; go_simp; exact ⟨Below.refl _ _, rfl⟩
      case q4s1 =>
        intro v W hE hd; simp only [Region.wanted, ↓reduceIte]; (try simp [deps, waitsOn, Region.binds, knowing, isV, ownsV, anyV] at hd); simp only [putAll, List.take_succ_cons, List.take_zero, List.drop_succ_cons, List.drop_zero, Act.put, List.setIfInBounds_toArray, List.set_cons_zero, List.set_cons_succ, Nat.zero_add, Nat.reduceAdd]
        obtain ⟨f0, f1, f2, f3⟩ := Hcells.out W (HE9.out.trans' hE)
        go_simp
        exact ⟨Below.refl _ _, rfl⟩
      case q4s2 =>
        intro v W hE hd; simp only [Region.wanted, ↓reduceIte]; (try simp [deps, waitsOn, Region.binds, knowing, isV, ownsV, anyV] at hd); simp only [putAll, List.take_succ_cons, List.take_zero, List.drop_succ_cons, List.drop_zero, Act.put, List.setIfInBounds_toArray, List.set_cons_zero, List.set_cons_succ, Nat.zero_add, Nat.reduceAdd]; go_simp; exact ⟨Below.refl _ _, rfl⟩
      case q4s3 =>
        intro v W hE hd; simp only [Region.wanted, ↓reduceIte]; (try simp [deps, waitsOn, Region.binds, knowing, isV, ownsV, anyV] at hd); simp only [putAll, List.take_succ_cons, List.take_zero, List.drop_succ_cons, List.drop_zero, Act.put, List.setIfInBounds_toArray, List.set_cons_zero, List.set_cons_succ, Nat.zero_add, Nat.reduceAdd]; go_simp; exact ⟨Below.refl _ _, rfl⟩
      case q4s4 =>
        intro v W hE hd; simp only [Region.wanted, ↓reduceIte]; (try simp [deps, waitsOn, Region.binds, knowing, isV, ownsV, anyV] at hd); simp only [putAll, List.take_succ_cons, List.take_zero, List.drop_succ_cons, List.drop_zero, Act.put, List.setIfInBounds_toArray, List.set_cons_zero, List.set_cons_succ, Nat.zero_add, Nat.reduceAdd]; go_simp; exact ⟨Below.refl _ _, rfl⟩
      case q4s5 =>
        intro v W hE hd; simp only [Region.wanted, ↓reduceIte]; (try simp [deps, waitsOn, Region.binds, knowing, isV, ownsV, anyV] at hd); simp only [putAll, List.take_succ_cons, List.take_zero, List.drop_succ_cons, List.drop_zero, Act.put, List.setIfInBounds_toArray, List.set_cons_zero, List.set_cons_succ, Nat.zero_add, Nat.reduceAdd]; go_simp; exact ⟨Below.refl _ _, rfl⟩
      case q4s6 =>
        intro v W hE hd; simp only [Region.wanted, ↓reduceIte]; (try simp [deps, waitsOn, Region.binds, knowing, isV, ownsV, anyV] at hd); simp only [putAll, List.take_succ_cons, List.take_zero, List.drop_succ_cons, List.drop_zero, Act.put, List.setIfInBounds_toArray, List.set_cons_zero, List.set_cons_succ, Nat.zero_add, Nat.reduceAdd]
        have e1 := cell_below (HE9.out.trans' hE) Hy.out.2.1
        go_simp
        exact ⟨Below.refl _ _, rfl⟩
      case q4s7 =>
        intro v W hE hd; simp only [Region.wanted, ↓reduceIte]; (try simp [deps, waitsOn, Region.binds, knowing, isV, ownsV, anyV] at hd); simp only [putAll, List.take_succ_cons, List.take_zero, List.drop_succ_cons, List.drop_zero, Act.put, List.setIfInBounds_toArray, List.set_cons_zero, List.set_cons_succ, Nat.zero_add, Nat.reduceAdd]
        go_simp
        have hcc := Hvc.out W (HE9.out.trans' hE)
        refine hcc.mono ?_
        rintro x w' ⟨rfl, hE2⟩
        have HE2 := hid hE2
        clear hE2 hcc
        go_simp
        exact ⟨HE2.out, rfl⟩
      case q4s8 =>
        intro v W hE hd; simp only [Region.wanted, ↓reduceIte]; (try simp [deps, waitsOn, Region.binds, knowing, isV, ownsV, anyV] at hd); simp only [putAll, List.take_succ_cons, List.take_zero, List.drop_succ_cons, List.drop_zero, Act.put, List.setIfInBounds_toArray, List.set_cons_zero, List.set_cons_succ, Nat.zero_add, Nat.reduceAdd]
        go_simp
        exact ⟨Below.refl _ _, rfl⟩
      case q4s9 =>
        intro v W hE hd; simp only [Region.wanted, ↓reduceIte]; (try simp [deps, waitsOn, Region.binds, knowing, isV, ownsV, anyV] at hd); simp only [putAll, List.take_succ_cons, List.take_zero, List.drop_succ_cons, List.drop_zero, Act.put, List.setIfInBounds_toArray, List.set_cons_zero, List.set_cons_succ, Nat.zero_add, Nat.reduceAdd]
        go_simp
        exact ⟨Below.refl _ _, rfl⟩
      case q4s10 =>
        intro v W hE hd; simp only [Region.wanted, ↓reduceIte]; (try simp [deps, waitsOn, Region.binds, knowing, isV, ownsV, anyV] at hd); simp only [putAll, List.take_succ_cons, List.take_zero, List.drop_succ_cons, List.drop_zero, Act.put, List.setIfInBounds_toArray, List.set_cons_zero, List.set_cons_succ, Nat.zero_add, Nat.reduceAdd]
        go_simp
        exact ⟨Below.refl _ _, rfl⟩
      case q4s11 =>
        intro v W hE hd; simp only [Region.wanted, ↓reduceIte]; (try simp [deps, waitsOn, Region.binds, knowing, isV, ownsV, anyV] at hd); simp only [putAll, List.take_succ_cons, List.take_zero, List.drop_succ_cons, List.drop_zero, Act.put, List.setIfInBounds_toArray, List.set_cons_zero, List.set_cons_succ, Nat.zero_add, Nat.reduceAdd]
        go_simp
        exact ⟨Below.refl _ _, rfl⟩
      case q4s12 =>
        intro v W hE hd; simp only [Region.wanted, ↓reduceIte]; (try simp [deps, waitsOn, Region.binds, knowing, isV, ownsV, anyV] at hd); simp only [putAll, List.take_succ_cons, List.take_zero, List.drop_succ_cons, List.drop_zero, Act.put, List.setIfInBounds_toArray, List.set_cons_zero, List.set_cons_succ, Nat.zero_add, Nat.reduceAdd]
        go_simp
        exact ⟨Below.refl _ _, rfl⟩
    · rintro v W10 hE ⟨-, -, -, -, -, -, -, -, -, -, -, e11, e12, -⟩
      have e11 := (show v 11 = _ from e11)
      have e12 := (show v 12 = _ from e12)
      simp only [putAll, List.take_succ_cons, List.take_zero, List.drop_succ_cons, List.drop_zero, Act.put, List.setIfInBounds_toArray, List.set_cons_zero, List.set_cons_succ, Nat.zero_add, Nat.reduceAdd]
      rw [e11, e12]
      have HEt := hid (HE9.out.trans' hE)
      have HE10 := hid (HE0.out.trans' HEt.out)
      have HR := hid (HSt.out.ext HEt.out)
      have Hsl := hid (Hslt.out _ HE10.out)
      clear e11 e12 hE Hvc Hq
      have y0 := cell_below HEt.out Hy.out.1
      have hxb := Hfx.out
      have hvb := Hvs.out
      by_cases h1 : df.kind = 1
      · rw [h1] at y0
        have hr := hid (show StepF df e D = (0, setF df [] (atI D [] + 1) D) by rw [hr0.out]; unfold stepF; rw [if_neg (by rw [h1]; decide), if_neg (by rw [h1]; decide), if_neg (by rw [h1]; decide)]; rfl)
        clear h1
        go_wp2_with fail
        refine (refGet_at HR.out []).mono ?_
        rintro e' w' ⟨rfl, rfl⟩
        have hcc := refSet_at HR.out [] (atI D [] + 1) (Nat.zero_le _) Hok.out.up (by omega) Hsl.out
        have hst : str [] = { data := #[] } := rfl
        rw [hst] at hcc
        generalize atI D [] = x at *
        have hw : IntKind.i64.wrap (x + 1) = x + 1 := by rw [IntKind.wrap_i64]; omega
        go_wp2_with fail
        refine hcc.mono ?_
        clear hcc
        rintro e' w' ⟨rfl, hS, hK⟩
        have HS := hid hS; have HK := hid ((Kept2.of_ext (d := y) (m := y) HE10.out).trans hK)
        clear hS hK
        go_wp2
        go_ret
        exact ⟨by rw [hr.out]; rfl, by rw [hr.out]; exact HS.out, HK.out⟩
      have k1 : (df.kind == 1) = false := beq_eq_false_iff_ne.2 h1
      by_cases h2 : df.kind = 2
      · rw [h2] at y0
        have hr0' := hid (show StepF df e D = sumF df e D by rw [hr0.out]; unfold stepF; rw [if_pos h2])
        cases vb
        · have hr := hid (show StepF df e D = (0, D) from hr0'.out.trans (Hnone.out h2 rfl))
          clear h2
          go_wp2
          go_ret
          exact ⟨by rw [hr.out]; rfl, by rw [hr.out]; exact HR.out, Kept2.of_ext HE10.out⟩
        have Hov := hid (Hover.out h2)
        clear h2
        go_wp2_with fail
        refine (refGet_at HR.out []).mono ?_
        rintro e' w' ⟨rfl, rfl⟩
        have hst : str [] = { data := #[] } := rfl
        obtain ⟨x, hx⟩ : ∃ x, x = atI D [] := ⟨_, rfl⟩
        have Hx := hid hx
        rw [← hx] at Hov hxb Hfits ⊢
        clear hx
        have hw : IntKind.i64.wrap (x + vl) = x + vl := by rw [IntKind.wrap_i64]; omega
        go_wp2_with fail
        refine (refFits_at (x + vl) _).mono ?_
        rintro e' w' ⟨rfl, rfl⟩
        cases hfit : fitsN (x + vl)
        · have hr := hid (show StepF df e D = (4, D) from hr0'.out.trans (Hov.out hfit))
          clear hfit
          go_wp2
          go_ret
          exact ⟨by rw [hr.out]; rfl, by rw [hr.out]; exact HR.out, Kept2.of_ext HE10.out⟩
        · have hr := hid (show StepF df e D = (0, setF df [] (x + vl) D) from hr0'.out.trans (Hfits.out hfit))
          clear hfit
          go_wp2_with fail
          refine (refGet_at HR.out []).mono ?_
          rintro e' w' ⟨rfl, rfl⟩
          rw [← Hx.out]
          have hcc := refSet_at HR.out [] (x + vl) (Nat.zero_le _) Hok.out.up (by omega) Hsl.out
          rw [hst] at hcc
          go_wp2_with fail
          refine hcc.mono ?_
          clear hcc
          rintro e' w' ⟨rfl, hS, hK⟩
          have HS := hid hS; have HK := hid ((Kept2.of_ext (d := y) (m := y) HE10.out).trans hK)
          clear hS hK
          go_wp2
          go_ret
          exact ⟨by rw [hr.out]; rfl, by rw [hr.out]; exact HS.out, HK.out⟩
      have k2 : (df.kind == 2) = false := beq_eq_false_iff_ne.2 h2
      by_cases h3 : df.kind = 3
      · rw [h3] at y0
        have hr0' := hid (show StepF df e D = (0, latestF df e D) by rw [hr0.out]; unfold stepF; rw [if_neg h2, if_pos h3])
        obtain ⟨f0, -, -, -⟩ := Hcells.out _ HEt.out
        clear h3
        cases vb
        · have hr := hid (show StepF df e D = (0, D) by rw [hr0'.out, Hlat.out]; rfl)
          clear f0
          go_wp2
          go_ret
          exact ⟨by rw [hr.out]; rfl, by rw [hr.out]; exact HR.out, Kept2.of_ext HE10.out⟩
        · have hr := hid (show StepF df e D = (0, setF df e.st vl D) by rw [hr0'.out, Hlat.out]; rfl)
          have hcc := refSet_at HR.out e.st vl HEv.out.st Hok.out.up (by omega) Hsl.out
          go_wp2_with fail
          refine hcc.mono ?_
          clear hcc f0
          rintro e' w' ⟨rfl, hS, hK⟩
          have HS := hid hS; have HK := hid ((Kept2.of_ext (d := y) (m := y) HE10.out).trans hK)
          clear hS hK
          go_wp2
          go_ret
          exact ⟨by rw [hr.out]; rfl, by rw [hr.out]; exact HS.out, HK.out⟩
      have k3 : (df.kind == 3) = false := beq_eq_false_iff_ne.2 h3
      have h4 : df.kind = 4 := by omega
      rw [h4] at y0
      have hr := hid (show StepF df e D = (0, membersF df e.st e.tags D) by rw [hr0.out]; unfold stepF; rw [if_neg h2, if_neg h3, if_pos h4])
      have hn := hid HEv.out.tags.1
      have hnc := HEv.out.tags.2.1
      have hcm := HEv.out.tags.2.2.1
      have HVt := hid (HEv.out.ext HEt.out)
      have HKt := hid (Kept2.of_ext (d := y) (m := y) HE10.out)
      have Hbs := hid (show w.heap.size ≠ y from by have := Hlt.out; omega)
      have Hbt := hid (show W10.heap[w.heap.size]? = some (.cells #[.int .i64 p, .int .i64 vr, .string (str e.st), .string (str e.ty), .slice A n c, .slice B k d] 47) from (HEt.out.block _ (Array.getElem?_eq_some_iff.1 Hbx.out).1).trans Hbx.out)
      clear h1 h2 h3 h4 hxb hvb Hnone Hover Hfits Hlat Hcells
      go_wp2_with fail
      clear y0
      go_loopw [8] (fun i wr => ∃ j : Nat, j ≤ n ∧ i = .int .i64 (j : Int) ∧ Hid (RefSt wr S y df (membersF df e.st (e.tags.take j) D)) ∧ Hid (Kept2 y y w wr) ∧ Hid (EvS wr S A n c B k d e) ∧ Hid (wr.heap[w.heap.size]? = some (.cells #[.int .i64 p, .int .i64 vr, .string (str e.st), .string (str e.ty), .slice A n c, .slice B k d] 47))) (fun i _ => n - (intOf i).toNat)
      case atStart => exact ⟨0, by omega, rfl, HR, HKt, HVt, Hbt⟩
      case round =>
        obtain ⟨j, hj, rfl, HS, HK, HV, HB⟩ := hrel
        have f0 : wr.cell? ⟨w.heap.size, 2, none⟩ = some (.string (str e.st)) := by rw [cell_of_row _ _ _ _ _ _ HB.out]; rfl
        have f2 : wr.cell? ⟨w.heap.size, 4, none⟩ = some (.slice A n c) := by rw [cell_of_row _ _ _ _ _ _ HB.out]; rfl
        have F := hid (And.intro f0 f2)
        by_cases hlt : j < n
        · have hjx : j < e.tags.length := by have := hn.out; omega
          have hlt' : (j : Int) < (n : Int) := by omega
          have hj00 : ¬ ((j : Int) < 0) := by omega
          have hj0 : (0 : Int) ≤ (j : Int) := by omega
          obtain ⟨b, o, rfl, -, g0, -⟩ := txt_at HV.out.tags j hjx
          have G0 := hid g0
          have ht := hsm.tags _ (List.getElem_mem hjx)
          have hstl := hsm.st
          have hnx := hid (show membersF df e.st (e.tags.take (j + 1)) D = countF df (keyF e.tags[j] e.st) (membersF df e.st (e.tags.take j) D) by
            rw [← membersF_snoc, List.take_succ_eq_append_getElem hjx])
          have hlenT : (e.tags.take j).length ≤ 1000 := by have := hsm.many; rw [List.length_take]; omega
          have hlen := length_membersF (d := df) (st := e.st) (e.tags.take j) D
          have hfm := membersF_fit (d := df) (st := e.st) (e.tags.take j) Hfit.out (by decide)
          have hfa := atI_fit hfm (by omega) (keyF e.tags[j] e.st)
          have hkl : (keyF e.tags[j] e.st).length ≤ 2001 := by unfold keyF; simp only [List.length_append, List.length_cons, List.length_nil]; omega
          have hks : Short (keyF e.tags[j] e.st) := by unfold Short; omega
          have hDl : (membersF df e.st (e.tags.take j) D).length < 1000000 := by omega
          have Hsl2 := hid (show ∀ k, S k → k < wr.heap.size from fun k hk => Nat.lt_of_lt_of_le (Hslt.out w (Below.refl _ _) k hk) HK.out.size)
          obtain ⟨ky, hky⟩ : ∃ ky, ky = keyF e.tags[j] e.st := ⟨_, rfl⟩
          have ad1 := fun w => run_string_add (P := Tryz.prog) (w := w) (str e.tags[j]) (str [32]) (by rw [str_size]; omega) (by decide)
          have ad2 := fun w => run_string_add (P := Tryz.prog) (w := w) (str e.tags[j] ++ str [32]) (str e.st) (by rw [← str_append, str_size]; simp; omega) (by rw [str_size]; omega)
          have hke : str e.tags[j] ++ str [32] ++ str e.st = str ky := by rw [hky, ← str_append, ← str_append]; rfl
          rw [hke] at ad2
          have h32 : str [32] = { data := #[32] } := rfl
          rw [h32] at ad1 ad2
          rw [← hky] at hfa hks hnx
          have hcf := hid (show countF df ky (membersF df e.st (e.tags.take j) D) = setF df ky (atI (membersF df e.st (e.tags.take j) D) ky + 1) (membersF df e.st (e.tags.take j) D) from rfl)
          rw [hcf.out] at hnx
          have Had := hid (And.intro ad1 ad2)
          have Hks := hid hks
          have Hup := hid (up_members (d := df) (st := e.st) (e.tags.take j) Hok.out.up)
          have hfb : -4611686018427387904 ≤ atI (membersF df e.st (e.tags.take j) D) ky ∧ atI (membersF df e.st (e.tags.take j) D) ky ≤ 4611686018427387904 := by omega
          clear hfa
          clear ad1 ad2 ht hstl hlenT hlen hfm hkl hks hke hky h32 hcf
          generalize e.tags[j] = tg at *
          go_wp2_with fail
          clear f0 f2 g0
          apply wp_drawn [isV _, isV _, isV _, isV _, isV _, isV _, isV (.string (str tg ++ { data := #[32] })), isV _, isV _, isV _, isV (.string (str ky)), isV (.string (str ky))] (by kernel_rfl)
          · kernel_rfl
          · refine ⟨?q5s0, ?q5s1, ?q5s2, ?q5s3, ?q5s4, ?q5s5, ?q5s6, ?q5s7, ?q5s8, ?q5s9, ?q5s10, ?q5s11, trivial⟩
            case q5s0 =>
              intro v W hE hd; simp only [Region.wanted, ↓reduceIte]; (try simp [deps, waitsOn, Region.binds, knowing, isV, ownsV, anyV] at hd); simp only [putAll, List.take_succ_cons, List.take_zero, List.drop_succ_cons, List.drop_zero, Act.put, List.setIfInBounds_toArray, List.set_cons_zero, List.set_cons_succ, Nat.zero_add, Nat.reduceAdd]; go_simp; exact ⟨Below.refl _ _, rfl⟩
            case q5s1 =>
              intro v W hE hd; simp only [Region.wanted, ↓reduceIte]; (try simp [deps, waitsOn, Region.binds, knowing, isV, ownsV, anyV] at hd); simp only [putAll, List.take_succ_cons, List.take_zero, List.drop_succ_cons, List.drop_zero, Act.put, List.setIfInBounds_toArray, List.set_cons_zero, List.set_cons_succ, Nat.zero_add, Nat.reduceAdd]; go_simp; exact ⟨Below.refl _ _, rfl⟩
            case q5s2 =>
              intro v W hE hd; simp only [Region.wanted, ↓reduceIte]; (try simp [deps, waitsOn, Region.binds, knowing, isV, ownsV, anyV] at hd); simp only [putAll, List.take_succ_cons, List.take_zero, List.drop_succ_cons, List.drop_zero, Act.put, List.setIfInBounds_toArray, List.set_cons_zero, List.set_cons_succ, Nat.zero_add, Nat.reduceAdd]
              have e1 := cell_below hE F.out.2
              go_simp
              exact ⟨Below.refl _ _, rfl⟩
            case q5s3 =>
              intro v W hE hd; simp only [Region.wanted, ↓reduceIte]; (try simp [deps, waitsOn, Region.binds, knowing, isV, ownsV, anyV] at hd); simp only [putAll, List.take_succ_cons, List.take_zero, List.drop_succ_cons, List.drop_zero, Act.put, List.setIfInBounds_toArray, List.set_cons_zero, List.set_cons_succ, Nat.zero_add, Nat.reduceAdd]; go_simp; exact ⟨Below.refl _ _, rfl⟩
            case q5s4 =>
              intro v W hE hd; simp only [Region.wanted, ↓reduceIte]; (try simp [deps, waitsOn, Region.binds, knowing, isV, ownsV, anyV] at hd); simp only [putAll, List.take_succ_cons, List.take_zero, List.drop_succ_cons, List.drop_zero, Act.put, List.setIfInBounds_toArray, List.set_cons_zero, List.set_cons_succ, Nat.zero_add, Nat.reduceAdd]; go_simp; exact ⟨Below.refl _ _, rfl⟩
            case q5s5 =>
              intro v W hE hd; simp only [Region.wanted, ↓reduceIte]; (try simp [deps, waitsOn, Region.binds, knowing, isV, ownsV, anyV] at hd); simp only [putAll, List.take_succ_cons, List.take_zero, List.drop_succ_cons, List.drop_zero, Act.put, List.setIfInBounds_toArray, List.set_cons_zero, List.set_cons_succ, Nat.zero_add, Nat.reduceAdd]
              have e1 := cell_below hE G0.out
              go_simp
              exact ⟨Below.refl _ _, rfl⟩
            case q5s6 =>
              intro v W hE hd; simp only [Region.wanted, ↓reduceIte]; (try simp [deps, waitsOn, Region.binds, knowing, isV, ownsV, anyV] at hd); simp only [putAll, List.take_succ_cons, List.take_zero, List.drop_succ_cons, List.drop_zero, Act.put, List.setIfInBounds_toArray, List.set_cons_zero, List.set_cons_succ, Nat.zero_add, Nat.reduceAdd]
              have ad1 := Had.out.1
              go_simp
              exact ⟨Below.refl _ _, rfl⟩
            case q5s7 =>
              intro v W hE hd; simp only [Region.wanted, ↓reduceIte]; (try simp [deps, waitsOn, Region.binds, knowing, isV, ownsV, anyV] at hd); simp only [putAll, List.take_succ_cons, List.take_zero, List.drop_succ_cons, List.drop_zero, Act.put, List.setIfInBounds_toArray, List.set_cons_zero, List.set_cons_succ, Nat.zero_add, Nat.reduceAdd]; go_simp; exact ⟨Below.refl _ _, rfl⟩
            case q5s8 =>
              intro v W hE hd; simp only [Region.wanted, ↓reduceIte]; (try simp [deps, waitsOn, Region.binds, knowing, isV, ownsV, anyV] at hd); simp only [putAll, List.take_succ_cons, List.take_zero, List.drop_succ_cons, List.drop_zero, Act.put, List.setIfInBounds_toArray, List.set_cons_zero, List.set_cons_succ, Nat.zero_add, Nat.reduceAdd]; go_simp; exact ⟨Below.refl _ _, rfl⟩
            case q5s9 =>
              intro v W hE hd; simp only [Region.wanted, ↓reduceIte]; (try simp [deps, waitsOn, Region.binds, knowing, isV, ownsV, anyV] at hd); simp only [putAll, List.take_succ_cons, List.take_zero, List.drop_succ_cons, List.drop_zero, Act.put, List.setIfInBounds_toArray, List.set_cons_zero, List.set_cons_succ, Nat.zero_add, Nat.reduceAdd]
              have e1 := cell_below hE F.out.1
              go_simp
              exact ⟨Below.refl _ _, rfl⟩
            case q5s10 =>
              intro v W hE hd; simp only [Region.wanted, ↓reduceIte]; (try simp [deps, waitsOn, Region.binds, knowing, isV, ownsV, anyV] at hd); simp only [putAll, List.take_succ_cons, List.take_zero, List.drop_succ_cons, List.drop_zero, Act.put, List.setIfInBounds_toArray, List.set_cons_zero, List.set_cons_succ, Nat.zero_add, Nat.reduceAdd]
              have ad2 := Had.out.2
              go_simp
              exact ⟨Below.refl _ _, rfl⟩
            case q5s11 =>
              intro v W hE hd; simp only [Region.wanted, ↓reduceIte]; (try simp [deps, waitsOn, Region.binds, knowing, isV, ownsV, anyV] at hd); simp only [putAll, List.take_succ_cons, List.take_zero, List.drop_succ_cons, List.drop_zero, Act.put, List.setIfInBounds_toArray, List.set_cons_zero, List.set_cons_succ, Nat.zero_add, Nat.reduceAdd]
              go_simp
              exact ⟨Below.refl _ _, rfl⟩
          · rintro v W11 hE ⟨-, -, -, -, -, -, -, -, -, -, -, e11, -⟩
            have e11 := (show v 11 = _ from e11)
            simp only [putAll, List.take_succ_cons, List.take_zero, List.drop_succ_cons, List.drop_zero, Act.put, List.setIfInBounds_toArray, List.set_cons_zero, List.set_cons_succ, Nat.zero_add, Nat.reduceAdd]
            rw [e11]
            have HS' := hid (HS.out.ext hE)
            have HK' := hid (HK.out.trans (Kept2.of_ext (d := y) (m := y) hE))
            have HV' := hid (HV.out.ext hE)
            have HB' := hid (show W11.heap[w.heap.size]? = some (.cells #[.int .i64 p, .int .i64 vr, .string (str e.st), .string (str e.ty), .slice (some ⟨b, o, none⟩) n c, .slice B k d] 47) from (hE.block _ (Array.getElem?_eq_some_iff.1 HB.out).1).trans HB.out)
            have Hsl3 := hid (show ∀ k, S k → k < W11.heap.size from fun k hk => Nat.lt_of_lt_of_le (Hsl2.out k hk) hE.size)
            clear e11 hE HS HK HV HB Had F G0
            go_wp2_with fail
            refine (refGet_at HS'.out ky).mono ?_
            rintro e' w' ⟨rfl, rfl⟩
            have hcc := refSet_at HS'.out ky (atI (membersF df e.st (e.tags.take j) D) ky + 1) Hks.out Hup.out hDl Hsl3.out
            generalize atI (membersF df e.st (e.tags.take j) D) ky = x at *
            have hw : IntKind.i64.wrap (x + 1) = x + 1 := by rw [IntKind.wrap_i64]; omega
            go_wp2_with fail
            refine hcc.mono ?_
            clear hcc
            rintro e' w' ⟨rfl, hS, hK⟩
            rw [← hnx.out] at hS
            have HS2 := hid hS
            have HK2 := hid (HK'.out.trans hK)
            have HV2 := hid (HV'.out.kept hK HS'.out.yIn HS'.out.yIn)
            have HB2 := hid ((hK.block _ (Array.getElem?_eq_some_iff.1 HB'.out).1 Hbs.out Hbs.out).trans HB'.out)
            clear hS hK
            go_wp2_with fail
            go_roundw
            case rel => exact ⟨j + 1, by omega, by go_num, HS2, HK2, HV2, HB2⟩
            case measure => simp [intOf]; omega
        · obtain rfl : j = n := by omega
          have hlt' : ¬ ((j : Int) < (j : Int)) := by omega
          have hall := hid (show e.tags.take j = e.tags from List.take_of_length_le (by have := hn.out; omega))
          go_wp2
          go_ret
          exact ⟨by rw [hr.out]; rfl, by rw [hr.out]; have := HS.out; rw [hall.out] at this; exact this, HK.out⟩
end Go.Proofs.YtpmmapcjohmniaaGreat
