/- The reference's disk: Crash. -/
import Derived.Test.YtpipmkaljkhgiaaDoorRD10
import Derived.Test.YtpipmkaljkhgiaaDoorFound
namespace Go.Proofs.YtpipmkaljkhgiaaDoor
open Go Go.RowKit
set_option linter.unusedSimpArgs false
set_option linter.unusedVariables false

/-- The row stored: any row of one's own, with blocks of one's own behind it. -/
theorem ref_stored3 {w W : World} {S : Nat → Prop} {y g : Nat} {q l : Int} {F F' : Files} {v : Value} {B : Nat} (h : RefIs w S y g q l F) (hu : Up F') (hok : OkF F') (hfew : F'.length ≤ 200)
    (hE : Ext w W) (hO : OwnS RFile 75 S W B v F') (hB : w.heap.size ≤ B) :
    ∃ S' g', RefIs (W.setCell ⟨y, 2, none⟩ v) S' y g' q l F' ∧ RStep w (W.setCell ⟨y, 2, none⟩ v) S S' y g ∧ (g' = g ∨ w.heap.size ≤ g') := by
  have hy := h.lt
  have hb := hE.block y hy
  obtain ⟨v0, e1, -, -⟩ := h.row
  have hsz := hE.size
  have hglt := h.glt
  obtain ⟨cs, ho, hr⟩ := hO
  obtain ⟨g', hob, hg'⟩ : ∃ g', (v.ownBlock = none ∨ v.ownBlock = some g') ∧ ((v.ownBlock = none ∧ g' = g) ∨ (v.ownBlock = some g' ∧ B ≤ g' ∧ g' < W.heap.size)) := by
    cases hq : v.ownBlock with
    | none => exact ⟨g, .inl rfl, .inl ⟨rfl, rfl⟩⟩
    | some k => have := World.ownsRow.lt ho k hq; exact ⟨k, .inr rfl, .inr ⟨rfl, this.1, this.2⟩⟩
  have hgg : g' = g ∨ w.heap.size ≤ g' := by
    rcases hg' with ⟨-, h⟩ | ⟨-, h, -⟩
    · exact .inl h
    · exact .inr (by omega)
  have hgW : g' < W.heap.size := by
    rcases hg' with ⟨-, h⟩ | ⟨-, -, h⟩
    · omega
    · exact h
  have hS' : ∀ k, (W.setCell ⟨y, 2, none⟩ v).heap.size ≤ k → ¬ (S k ∨ k = g') := fun k hk => by
    have hk' : W.heap.size ≤ k := by simpa using hk
    rintro (h' | h')
    · exact h.fresh k (by omega) h'
    · omega
  refine ⟨fun k => S k ∨ k = g', g', ⟨?_, ?_, ?_, ⟨v, ?_, ⟨cs, ?_, ?_⟩, ?_⟩, .inl h.own, .inr rfl, by simpa using hgW, hS', hfew, hu, hok, h.lr⟩, ⟨⟨hE.os, hE.tape, hE.output, by simpa using hsz, fun k hk h1 _ => (heap_setCell_other W ⟨y, 2, none⟩ k v h1).trans (hE.block k hk)⟩, fun k hk => ⟨fun h' => by rcases h' with h' | h'; exact h'; rcases hgg with e | e; (rw [h', e]; exact h.ownG); omega, .inl⟩, hS'⟩, hgg⟩
  · exact (World.cell?_setCell_other (w := W) (a := ⟨y, 2, none⟩) (b := ⟨y, 0, none⟩) (v := v) (h := by simp)).trans ((World.cell?_of_block (a := ⟨y, 0, none⟩) hb).trans h.quota)
  · exact (World.cell?_setCell_other (w := W) (a := ⟨y, 2, none⟩) (b := ⟨y, 1, none⟩) (v := v) (h := by simp)).trans ((World.cell?_of_block (a := ⟨y, 1, none⟩) hb).trans h.left)
  · intro k; simp only [World.frozen?_setCell]; exact (World.frozen?_of_block (a := ⟨y, k, none⟩) hb).trans (h.free k)
  · exact World.cell?_setCell_same (w := W) (a := ⟨y, 2, none⟩) (h := (World.cell?_of_block (a := ⟨y, 2, none⟩) hb).trans e1) ..
  · refine ownsRow_base (World.ownsRow.kept (row := some y) ho ⟨rfl, rfl, rfl, by simp, fun k _ hk => heap_setCell_other W ⟨y, 2, none⟩ k v (fun e => hk (by rw [e]))⟩ ?_) (Nat.zero_le _)
    rcases hg' with ⟨e, -⟩ | ⟨e, h1, -⟩
    · exact .inl e
    · exact .inr (by rw [e]; intro e'; simp only [Option.some.injEq] at e'; omega)
  · refine (hr.ext fun k hk => heap_setCell_other W ⟨y, 2, none⟩ k v (fun e => hk.2.2 (by rw [show k = y from e]; exact h.own))).mono fun k hk => ⟨by have := hk.1; simpa using this, ?_⟩
    rintro (h' | h')
    · exact hk.2.2 h'
    · rcases hg' with ⟨e, e'⟩ | ⟨e, h1, -⟩
      · exact hk.2.2 (by rw [h', e']; exact h.ownG)
      · exact hk.2.1 (by rw [e, h'])
  · rcases hg' with ⟨e, -⟩ | ⟨e, h1, -⟩
    · exact .inl e
    · exact .inr ⟨e, by omega⟩
/-- A file over bytes of one's own, in a box of its own. -/
def boxF (base : Nat) (nm bs : List UInt8) (sf : Int) : SPred := ⟨fun v w => ∃ g x, v = .slice (some ⟨g, 0, none⟩) 1 1 ∧ w.heap[g]? = some (.cells #[.string (str nm), x, .int .i64 sf] 75) ∧ base ≤ g ∧ OB w base x bs,
  fun _ _ _ ⟨g, x, h1, h2, h3, h4⟩ hE => ⟨g, x, h1, by rw [hE.block g (Array.getElem?_eq_some_iff.1 h2).1]; exact h2, h3, h4.below hE⟩⟩
theorem box_others {W : World} {S : Nat → Prop} {base : Nat} {v x : Value} {nm bs : List UInt8} {sf g : Nat} (hb : W.heap[g]? = some (.cells #[.string (str nm), x, .int .i64 (sf : Int)] 75)) (h : OB W base x bs) (hS : ∀ k, base ≤ k → ¬ S k) (hv : ∀ k, v.ownBlock = some k → k < base) :
    ∃ cs, Rows RFile W (OthersS S W v) [(nm, ⟨bs, sf⟩)] cs ∧ RV W (some ⟨g, 0, none⟩) cs := by
  obtain ⟨A, c, e, hc, hr⟩ := OB.read h
  have hm : c ≤ 9223372036854775807 := by
    rcases h.2 with ⟨h1, h2⟩ | ⟨g, cap, cur, h1, _, _, _, hm, _⟩
    · rw [h1] at e; simp only [Value.slice.injEq] at e; omega
    · rw [h1] at e; simp only [Value.slice.injEq] at e; simp only [maxLen] at hm; omega
  have hrel : RFile.rel W (OthersS S W v) (nm, ⟨bs, sf⟩) [strV nm, .slice A bs.length c, .int .i64 (sf : Int)] := by
    refine rfile_mk (p := (nm, ⟨bs, sf⟩)) hc hm (RK.of_rv hr fun b o e' hlt => ?_)
    rw [e] at h
    have hbb := own_base h b (by rw [e']; rfl)
    exact ⟨hlt, fun hh => by have := hv b hh; omega, hS b hbb⟩
  subst e
  refine ⟨_, Rows.single hrel, .inr ⟨g, 0, rfl, fun j u hu => ?_⟩⟩
  rw [cell_of_row _ _ _ _ _ _ hb, Nat.zero_add]
  simpa [strV] using hu
theorem up_crashF (keep : Int) {F : Files} (h : Up F) : Up (crashF keep F) := up_names h (by unfold crashF; rw [List.map_map]; rfl)
theorem ok_crashF (keep : Int) {F : Files} (h : OkF F) : OkF (crashF keep F) := by
  intro p hp
  obtain ⟨f, hf, rfl⟩ := List.mem_map.1 hp
  have := h f hf
  simp only [crash1, List.length_take]
  unfold crashN
  omega
theorem crashF_take (keep : Int) (F : Files) (k : Nat) (hk : k < F.length) : (crashF keep F).take (k + 1) = (crashF keep F).take k ++ [(F[k].1, crash1 keep F[k].2)] := by
  unfold crashF
  rw [List.take_succ_eq_append_getElem (by simpa using hk)]
  simp
set_option maxRecDepth 100000 in
set_option maxHeartbeats 4000000 in
theorem crash_ref {w : World} {S : Nat → Prop} {y g : Nat} {q l : Int} {F : Files} (h : RefIs w S y g q l F) (keep : Int) (hkeep : keep ≤ 9223372036854775807) :
    Calls Tryd.prog 42 #[.pointer (some ⟨y, 0, none⟩), .int .i64 keep] w fun e w' => e = .returned (.tuple #[]) ∧ ∃ S' g', RefIs w' S' y g' q (-1) (crashF keep F) ∧ RStep w w' S S' y g ∧ (g' = g ∨ w.heap.size ≤ g') := by
  have c1 := h.left
  have cf := h.free
  obtain ⟨hR, hK⟩ := h.relit (-1) (by omega)
  have S1 := hid (show RStep w (w.setCell ⟨y, 1, none⟩ (.int .i64 (-1))) S S y g from ⟨hK, fun _ _ => Iff.rfl, fun k hk => h.fresh k (by simpa using hk)⟩)
  have hmax := run_max0 keep ((max keep 0).toNat : Int) (by omega)
  obtain ⟨kp, hkp⟩ : ∃ kp, kp = (max keep 0).toNat := ⟨_, rfl⟩
  have hkm : (kp : Int) ≤ 9223372036854775807 := by omega
  rw [← hkp] at hmax
  have Hkp := hid hkp
  have H1 := hid hR
  obtain ⟨A0, c0, c2, hc, hcm, hcell⟩ := hR.reads
  have hfew := hR.few
  obtain ⟨N, hN⟩ : ∃ N, N = F.length := ⟨_, rfl⟩
  rw [← hN] at c2 hc hfew
  have HN := hid hN
  have HC := hid hcell
  have Hsz := hid (show (w.setCell ⟨y, 1, none⟩ (.int .i64 (-1))).heap.size = w.heap.size by simp)
  clear h hK hR hkp hN hcell
  go_enter Tryd.func42, Tryd.ntmps42
  go_wp2_with fail
  clear c1 cf
  generalize w.setCell ⟨y, 1, none⟩ (.int .i64 (-1)) = w1 at *
  have C2 := hid c2
  clear c2
  go_loopw [4, 5] (fun v i wr => ∃ k : Nat, k ≤ N ∧ i = .int .i64 (k : Int) ∧ Hid (OwnS RFile 75 S wr w.heap.size v ((crashF keep F).take k)) ∧ Hid (Ext w1 wr)) (fun _ i _ => N - (intOf i).toNat)
  case atStart => exact ⟨0, by omega, rfl, by have h0 := OwnS.empty (R := RFile) (S := S) (e := 75) w1 w.heap.size (Nat.le_of_eq Hsz.out.symm); rw [Hsz.out] at h0; exact h0, (Below.refl _ _).alloc (Nat.le_refl _) _⟩
  case round =>
    obtain ⟨k, hk, rfl, HO, HE⟩ := hrel
    have c2 := cell_below HE.out C2.out
    by_cases hlt : k < N
    · have hkF : k < F.length := by have := HN.out; omega
      obtain ⟨gb, A1, c1, rfl, hgb, f0, f1, f2, hl1, hl2, hr⟩ := HC.out k hkF
      have hts := crashF_take keep F k hkF
      have hok := H1.out.ok F[k] (List.getElem_mem _)
      obtain ⟨p, hp⟩ : ∃ p, p = F[k] := ⟨_, rfl⟩
      rw [← hp] at f0 f1 f2 hl1 hr hts hok
      obtain ⟨nm, b, s⟩ := p
      simp only at f0 f1 f2 hl1 hr hts hok
      obtain ⟨n, hn⟩ : ∃ n, n = b.length := ⟨_, rfl⟩
      rw [← hn] at f1 hl1 hok
      have hn64 : n ≤ 65536 := hok.1
      have hsn : s ≤ n := hok.2
      obtain ⟨mn, hmn⟩ : ∃ mn, mn = min kp (n - s) := ⟨_, rfl⟩
      obtain ⟨m, hm⟩ : ∃ m, m = s + mn := ⟨_, rfl⟩
      have hc1 : crash1 keep ⟨b, s⟩ = ⟨b.take m, m⟩ := by
        have : crashN keep ⟨b, s⟩ = m := by unfold crashN; rw [hm, hmn, Hkp.out, hn]
        unfold crash1; rw [this]
      rw [hc1] at hts
      have hmin := run_min2 (kp : Int) ((n : Int) - (s : Int)) (mn : Int) (by omega)
      have hmm := hid (show (s : Int) + (mn : Int) = (m : Int) by omega)
      have hmnn : (mn : Int) ≤ (n : Int) - (s : Int) := by omega
      have hmk : m ≤ n := by omega
      have hm64 : (m : Int) ≤ (c1 : Int) := by omega
      have Hts := hid hts
      have Hlm := hid (show (b.take m).length = m by rw [List.length_take]; omega)
      have Hrm := hid (RB.take (RB.below (RK.rv hr) HE.out) m)
      generalize b.take m = X at Hts Hlm Hrm
      have g0 := cell_below HE.out f0
      have g1 := cell_below HE.out f1
      have g2 := cell_below HE.out f2
      have hlt' : (k : Int) < (N : Int) := by omega
      have hk00 : ¬ ((k : Int) < 0) := by omega
      have hwl := HE.out.size
      have hlen : ((crashF keep F).take k).length ≤ 200 := by have := List.length_take_le k (crashF keep F); omega
      clear hts hc1 hr hok hp hm hmn f0 f1 f2 hn
      go_wp2_with fail
      rw [hmm.out]
      have Hbx := hid (heap_alloc_last wr (.cells #[.string (str nm), .slice A1 n c1, .int .i64 (s : Int)] 75))
      have HE2 := hid (show Ext wr (wr.alloc (.cells #[.string (str nm), .slice A1 n c1, .int .i64 (s : Int)] 75)) from (Below.refl _ _).alloc (Nat.le_refl _) _)
      clear hmin hmax
      apply wp_drawn_last 12 [isV _, isV _, isV _, emptyB wr.heap.size, isV _, isV _, isV _, isV _, ownB wr.heap.size X, isV _, filP wr.heap.size nm X (m : Int), boxF wr.heap.size nm X (m : Int)] (by decide) (by kernel_rfl)
      · kernel_rfl
      · kernel_rfl
      · refine ⟨?r7s0, ?r7s1, ?r7s2, ?r7s3, ?r7s4, ?r7s5, ?r7s6, ?r7s7, ?r7s8, ?r7s9, ?r7s10, ?r7s11, trivial⟩
        case r7s0 =>
          intro v W hE hd; simp only [Region.wanted, ↓reduceIte]; (try simp [deps, waitsOn, Region.binds, knowing, isV, ownsV, anyV] at hd); simp only [putAll, List.take_succ_cons, List.take_zero, List.drop_succ_cons, List.drop_zero, Act.put, List.setIfInBounds_toArray, List.set_cons_zero, List.set_cons_succ, Nat.zero_add, Nat.reduceAdd]; go_simp; exact ⟨Below.refl _ _, rfl⟩
        case r7s1 =>
          intro v W hE hd; simp only [Region.wanted, ↓reduceIte]; (try simp [deps, waitsOn, Region.binds, knowing, isV, ownsV, anyV] at hd); simp only [putAll, List.take_succ_cons, List.take_zero, List.drop_succ_cons, List.drop_zero, Act.put, List.setIfInBounds_toArray, List.set_cons_zero, List.set_cons_succ, Nat.zero_add, Nat.reduceAdd]; go_simp; exact ⟨Below.refl _ _, rfl⟩
        case r7s2 =>
          intro v W hE hd; simp only [Region.wanted, ↓reduceIte]; (try simp [deps, waitsOn, Region.binds, knowing, isV, ownsV, anyV] at hd); simp only [putAll, List.take_succ_cons, List.take_zero, List.drop_succ_cons, List.drop_zero, Act.put, List.setIfInBounds_toArray, List.set_cons_zero, List.set_cons_succ, Nat.zero_add, Nat.reduceAdd]
          have hbk := (hE.block wr.heap.size (by simp)).trans Hbx.out
          have e1 : W.cell? ⟨wr.heap.size, 0, none⟩ = some (.string (str nm)) := by rw [cell_of_row _ _ _ _ _ _ hbk]; rfl
          clear hbk
          go_simp
          exact ⟨Below.refl _ _, rfl⟩
        case r7s3 =>
          intro v W hE hd; simp only [Region.wanted, ↓reduceIte]; (try simp [deps, waitsOn, Region.binds, knowing, isV, ownsV, anyV] at hd); simp only [putAll, List.take_succ_cons, List.take_zero, List.drop_succ_cons, List.drop_zero, Act.put, List.setIfInBounds_toArray, List.set_cons_zero, List.set_cons_succ, Nat.zero_add, Nat.reduceAdd]
          have hz := hE.size
          have hz1 : wr.heap.size + 1 ≤ W.heap.size := by simpa using hz
          go_simp
          exact ⟨(Below.refl _ _).alloc (Nat.le_refl _) _, _, rfl, OB_empty W _ (by omega), by simp; omega⟩
        case r7s4 =>
          intro v W hE hd; simp only [Region.wanted, ↓reduceIte]; (try simp [deps, waitsOn, Region.binds, knowing, isV, ownsV, anyV] at hd); simp only [putAll, List.take_succ_cons, List.take_zero, List.drop_succ_cons, List.drop_zero, Act.put, List.setIfInBounds_toArray, List.set_cons_zero, List.set_cons_succ, Nat.zero_add, Nat.reduceAdd]; go_simp; exact ⟨Below.refl _ _, rfl⟩
        case r7s5 =>
          intro v W hE hd; simp only [Region.wanted, ↓reduceIte]; (try simp [deps, waitsOn, Region.binds, knowing, isV, ownsV, anyV] at hd); simp only [putAll, List.take_succ_cons, List.take_zero, List.drop_succ_cons, List.drop_zero, Act.put, List.setIfInBounds_toArray, List.set_cons_zero, List.set_cons_succ, Nat.zero_add, Nat.reduceAdd]
          have hbk := (hE.block wr.heap.size (by simp)).trans Hbx.out
          have e1 : W.cell? ⟨wr.heap.size, 1, none⟩ = some (.slice A1 n c1) := by rw [cell_of_row _ _ _ _ _ _ hbk]; rfl
          clear hbk
          go_simp
          exact ⟨Below.refl _ _, rfl⟩
        case r7s6 =>
          intro v W hE hd; simp only [Region.wanted, ↓reduceIte]; (try simp [deps, waitsOn, Region.binds, knowing, isV, ownsV, anyV] at hd); simp only [putAll, List.take_succ_cons, List.take_zero, List.drop_succ_cons, List.drop_zero, Act.put, List.setIfInBounds_toArray, List.set_cons_zero, List.set_cons_succ, Nat.zero_add, Nat.reduceAdd]; go_simp; exact ⟨Below.refl _ _, rfl⟩
        case r7s7 =>
          intro v W hE hd; simp only [Region.wanted, ↓reduceIte]; (try simp [deps, waitsOn, Region.binds, knowing, isV, ownsV, anyV] at hd); simp only [putAll, List.take_succ_cons, List.take_zero, List.drop_succ_cons, List.drop_zero, Act.put, List.setIfInBounds_toArray, List.set_cons_zero, List.set_cons_succ, Nat.zero_add, Nat.reduceAdd]; go_simp; exact ⟨Below.refl _ _, rfl⟩
        case r7s8 =>
          intro v W hE hd; simp only [Region.wanted, ↓reduceIte]; (try simp [deps, waitsOn, Region.binds, knowing, isV, ownsV, anyV] at hd); simp only [putAll, List.take_succ_cons, List.take_zero, List.drop_succ_cons, List.drop_zero, Act.put, List.setIfInBounds_toArray, List.set_cons_zero, List.set_cons_succ, Nat.zero_add, Nat.reduceAdd]
          obtain ⟨⟨ge, e1, h1, h2⟩, e4⟩ := hd
          rw [e1] at h1
          obtain ⟨v', w', hrun, hO', hE'⟩ := run_app_empty h1 h2 Hlm.out.symm (RB.below Hrm.out (Ext.trans' HE2.out hE)) (by omega)
          refine step_app (.tmp 43) (.tmp 47) rfl e1 e4 hrun ?_
          exact ⟨_, rfl, hE', hO', Nat.le_trans h2 hE'.size⟩
        case r7s9 =>
          intro v W hE hd; simp only [Region.wanted, ↓reduceIte]; (try simp [deps, waitsOn, Region.binds, knowing, isV, ownsV, anyV] at hd); simp only [putAll, List.take_succ_cons, List.take_zero, List.drop_succ_cons, List.drop_zero, Act.put, List.setIfInBounds_toArray, List.set_cons_zero, List.set_cons_succ, Nat.zero_add, Nat.reduceAdd]; go_simp; exact ⟨Below.refl _ _, rfl⟩
        case r7s10 =>
          intro v W hE hd; simp only [Region.wanted, ↓reduceIte]; (try simp [deps, waitsOn, Region.binds, knowing, isV, ownsV, anyV] at hd); simp only [putAll, List.take_succ_cons, List.take_zero, List.drop_succ_cons, List.drop_zero, Act.put, List.setIfInBounds_toArray, List.set_cons_zero, List.set_cons_succ, Nat.zero_add, Nat.reduceAdd]
          obtain ⟨e1, ⟨h7, h72⟩, e9⟩ := hd
          obtain ⟨A9, c9, e7, -, -⟩ := OB.read h7
          rw [e7] at h7
          rw [Hlm.out] at e7 h7
          have H7 := hid h7; clear h7
          go_simp
          exact ⟨Below.refl _ _, _, rfl, H7.out, h72⟩
        case r7s11 =>
          intro v W hE hd; simp only [Region.wanted, ↓reduceIte]; (try simp [deps, waitsOn, Region.binds, knowing, isV, ownsV, anyV] at hd); simp only [putAll, List.take_succ_cons, List.take_zero, List.drop_succ_cons, List.drop_zero, Act.put, List.setIfInBounds_toArray, List.set_cons_zero, List.set_cons_succ, Nat.zero_add, Nat.reduceAdd]
          obtain ⟨x, e1, h7, h72⟩ := hd
          have H7 := hid h7; clear h7
          go_simp
          refine ⟨(Below.refl _ _).alloc (Nat.le_refl _) _, _, x, rfl, ?_, h72, ?_⟩
          · exact heap_alloc_last W _
          · exact H7.out.below ((Below.refl _ _).alloc (Nat.le_refl _) _)
      · rintro v W6 hE ⟨e0, -, -, -, -, -, -, -, -, -, -, e11, -⟩
        have e0 := (show v 0 = _ from e0)
        have e11 := (show _ from e11)
        simp only [putAll, List.take_succ_cons, List.take_zero, List.drop_succ_cons, List.drop_zero, Act.put, List.setIfInBounds_toArray, List.set_cons_zero, List.set_cons_succ, Nat.zero_add, Nat.reduceAdd]
        obtain ⟨gx, x, e11, hbx, hgx, hob⟩ := e11
        rw [e0, e11]
        have HEW := hid (Ext.trans' HE2.out hE)
        have HO6 := hid (HO.out.ext HEW.out)
        have HB6 : Hid (Below w.heap.size w1 W6) := hid (by rw [← Hsz.out]; exact HE.out.trans (HEW.out.mono HE.out.size))
        have hsz6 := HEW.out.size
        have HR6 := hid (box_others (S := S) (v := u4) hbx hob (fun k hk => H1.out.fresh k (by omega)) (fun k hk => by obtain ⟨cs, ho, -⟩ := HO.out; exact (World.ownsRow.lt ho k hk).2))
        clear e0 e11 hbx hgx hob hE
        go_wp2_with (at_builtin; refine wpList_appS (w0 := w1) (R := RFile) (xs := (crashF keep F).take k) (base := w.heap.size) finfo rfl (.tmp 40) (.tmp 51) rfl rfl HO6 HB6 (by have := Hsz.out; omega) (some ⟨gx, 0, none⟩) 1 1 [(nm, ⟨X, m⟩)] rfl rfl HR6 (by omega) (by omega) ?_; intro v2 W2 HA2 HB2 _)
        go_roundw
        case rel => exact ⟨k + 1, by omega, by go_num, by rw [Hts.out]; exact HA2, by have h := HB2.out; rw [← Hsz.out] at h; exact h⟩
        case measure => simp [intOf]; omega
    · obtain rfl : k = N := by omega
      have hall := hid (show (crashF keep F).take k = crashF keep F from List.take_of_length_le (by have := HN.out; unfold crashF; simp; omega))
      rw [hall.out] at HO
      have hfz := (World.frozen?_of_block (a := ⟨y, 2, none⟩) (HE.out.block y H1.out.lt)).trans (H1.out.free 2)
      obtain ⟨Ao, co, cso, rfl, -⟩ := HO.out.read
      obtain ⟨L, hL⟩ : ∃ L, L = (crashF keep F).length := ⟨_, rfl⟩
      rw [← hL] at HO ⊢
      clear hL
      go_wp2
      go_end0
      obtain ⟨S', g', h1, h2, h3⟩ := ref_stored3 H1.out (up_crashF keep H1.out.up) (ok_crashF keep H1.out.ok) (by have := H1.out.few; unfold crashF; simpa using this) HE.out HO.out (Nat.le_of_eq Hsz.out)
      exact ⟨rfl, S', g', h1, S1.out.trans h2 (.inl rfl), by have := Hsz.out; omega⟩
end Go.Proofs.YtpipmkaljkhgiaaDoor
