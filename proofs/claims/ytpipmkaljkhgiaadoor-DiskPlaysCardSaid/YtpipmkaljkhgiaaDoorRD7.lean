/- The reference's disk: Sync, Truncate. -/
import Derived.Test.YtpipmkaljkhgiaaDoorRD6
namespace Go.Proofs.YtpipmkaljkhgiaaDoor
open Go Go.RowKit
set_option linter.unusedSimpArgs false
set_option linter.unusedVariables false

theorem rows_sync {w : World} {K : Nat → Prop} {s : Nat} : ∀ {F : Files} {cs : List Value} {k : Nat} (hk : k < F.length), Rows RFile w K F cs → Rows RFile w K (F.set k (F[k].1, ⟨F[k].2.b, s⟩)) (cs.set (k * 3 + 2) (.int .i64 (s : Int)))
  | p :: F, _, 0, _, ⟨c, r, rfl, hc, hr⟩ => by
    obtain ⟨A, c', rfl, h1, h2, h3⟩ := rfile_rel hc
    exact ⟨[strV p.1, .slice A p.2.b.length c', .int .i64 (s : Int)], r, rfl, rfile_mk (p := (p.1, ⟨p.2.b, s⟩)) h1 h2 h3, hr⟩
  | p :: F, _, k + 1, hk, ⟨c, r, rfl, hc, hr⟩ => by
    have hk' : k < F.length := by simpa using hk
    obtain ⟨A, c', rfl, h1, h2, h3⟩ := rfile_rel hc
    refine ⟨[strV p.1, .slice A p.2.b.length c', .int .i64 (p.2.safe : Int)], r.set (k * 3 + 2) (.int .i64 (s : Int)), ?_, hc, rows_sync hk' hr⟩
    rw [show (k + 1) * 3 + 2 = (k * 3 + 2) + 3 by omega]
    simp [List.set]
theorem putF_set {F : Files} (hu : Up F) {k : Nat} (hk : k < F.length) {nm : List UInt8} (g : File) (he : F[k].1 = nm) : putF nm g F = F.set k (nm, g) := by
  rw [putF_there nm g hu (List.mem_map.2 ⟨F[k], List.getElem_mem _, he⟩)]
  apply List.ext_getElem
  · simp
  · intro i h1 h2
    rw [List.getElem_map, List.getElem_set]
    have hi : i < F.length := by simpa using h1
    by_cases hik : k = i
    · subst hik
      rw [if_pos (by simpa using he), if_pos rfl]
    · rw [if_neg, if_neg hik]
      intro hb
      have hb' : F[i].1 = nm := by simpa using hb
      have hpw := List.pairwise_iff_getElem.1 hu
      rcases Nat.lt_or_gt_of_ne hik with h | h
      · exact bb_ne (hpw k i hk hi h) (he.trans hb'.symm)
      · exact bb_ne (hpw i k hi hk h) (hb'.trans he.symm)
theorem knownEF_at {l : Int} {F : Files} {nm : List UInt8} (h0 : ¬ l = 0) : knownEF l F nm = if (atF F nm).isSome then 0 else 11 := by unfold knownEF; rw [if_neg h0]
set_option maxRecDepth 100000 in
set_option maxHeartbeats 4000000 in
theorem sync_ref {w : World} {S : Nat → Prop} {y g : Nat} {q l : Int} {F : Files} (h : RefIs w S y g q l F) (nm : List UInt8) :
    Calls Tryd.prog 38 #[.pointer (some ⟨y, 0, none⟩), .string (str nm)] w fun e w' => e = .returned (.int .i64 (knownEF l F nm)) ∧ ∃ S' g', RefIs w' S' y g' q (burnL l) (syncF l F nm) ∧ RStep w w' S S' y g ∧ (g' = g ∨ w.heap.size ≤ g') := by
  have H := hid h
  clear h
  go_enter Tryd.func38, Tryd.ntmps38
  go_wp2_with fail
  refine (burn_ref H.out).mono ?_
  rintro e w1 ⟨rfl, hR, hS⟩
  have H1 := hid hR; have S1 := hid hS
  clear hR hS
  by_cases h0 : l = 0
  · rw [decide_eq_true h0]
    have e3 := hid (show knownEF l F nm = 14 by unfold knownEF; rw [if_pos h0])
    have e4 := hid (show syncF l F nm = F by unfold syncF; rw [if_pos h0])
    go_wp2
    go_ret
    exact ⟨by rw [e3.out]; rfl, S, g, by rw [e4.out]; exact H1.out, S1.out, .inl rfl⟩
  rw [decide_eq_false h0]
  go_wp2_with fail
  refine (at_ref H1.out nm).mono ?_
  rintro e w' ⟨rfl, rfl⟩
  rcases idx_cases F nm with ⟨hat, hi⟩ | ⟨k, hk, f, hat, hi, hFk⟩
  · rw [hi]
    have e3 := hid (show knownEF l F nm = 11 by rw [knownEF_at h0, hat]; rfl)
    have e4 := hid (show syncF l F nm = F by unfold syncF; rw [if_neg h0, hat])
    clear hi hat
    go_wp2
    go_ret
    exact ⟨by rw [e3.out]; rfl, S, g, by rw [e4.out]; exact H1.out, S1.out, .inl rfl⟩
  rw [hi]
  have e3 := hid (show knownEF l F nm = 0 by rw [knownEF_at h0, hat]; rfl)
  have e4 := hid (show syncF l F nm = F.set k (nm, ⟨f.b, f.b.length⟩) by unfold syncF; rw [if_neg h0, hat]; exact putF_set H1.out.up hk _ (by rw [hFk]))
  obtain ⟨v, c2, hO, hvg⟩ := H1.out.row
  obtain ⟨gb, c0, rfl, hob, -, hgb, hc, hcm, hcell⟩ := hO.at_ (by omega)
  have hgb' : gb = g ∧ g ≠ y := by
    rcases hvg with e | ⟨e, e2⟩
    · rw [hob] at e; cases e
    · rw [hob] at e; exact ⟨by simpa using e, e2⟩
  obtain ⟨rfl, hgy⟩ := hgb'
  obtain ⟨d, hd, hcc⟩ := hcell k hk
  obtain ⟨A1, c1, rfl, hl1, hl2, hr⟩ := rfile_rel hd
  have f1 := hcc 1 _ rfl
  have f2 := hcc 2 _ rfl
  rw [hFk] at f1 f2
  obtain ⟨n1, hn1⟩ : ∃ n1, n1 = f.b.length := ⟨_, rfl⟩
  have f1' : w1.cell? ⟨gb, k * 3 + 1, none⟩ = some (.slice A1 n1 c1) := by rw [hn1]; exact f1
  have f2' : w1.cell? ⟨gb, k * 3 + 2, none⟩ = some (.int .i64 (f.safe : Int)) := f2
  obtain ⟨N, hN⟩ : ∃ N, N = F.length := ⟨_, rfl⟩
  have c2' : w1.cell? ⟨y, 2, none⟩ = some (.slice (some ⟨gb, 0, none⟩) N c0) := by rw [hN]; exact c2
  have hfz : w1.frozen? ⟨gb, k * 3 + 2, none⟩ = false := by
    obtain ⟨cs, ho, -⟩ := hO
    rcases ho.2 with ⟨h1, h2⟩ | ⟨g2, cap, cur, h1, hb, hg, -⟩
    · cases h1
    · simp only [Value.slice.injEq, Option.some.injEq, Addr.mk.injEq, and_true] at h1
      obtain ⟨rfl, -⟩ := h1
      exact frozen_of_row w1 gb _ cur _ hg
  have HO := hid hO; have HFk := hid hFk; have Hn1 := hid hn1; have HN := hid hN
  have F1 := hid f1'; have F2 := hid f2'; have C2 := hid c2'; have FZ := hid hfz
  have hkN : (k : Int) < (N : Int) := by omega
  have hk0 : (0 : Int) ≤ (k : Int) := by omega
  have hk00 : ¬ ((k : Int) < 0) := by omega
  have hfew := H1.out.few
  have hN200 : N ≤ 200 := by omega
  clear hi hat hFk c2 hO hvg hcell hd hcc f1 f2 f1' f2' hn1 hN c2' hfz hr hob
  go_wp2_with fail
  apply wp_drawn_last 16 [isV _, isV _, isV _, isV _, isV _, isV _, isV _, isV _, isV _, isV _, isV _, isV _, isV _, isV _, isV _, isV _] (by decide) (by kernel_rfl)
  · kernel_rfl
  · kernel_rfl
  · refine ⟨?r7s0, ?r7s1, ?r7s2, ?r7s3, ?r7s4, ?r7s5, ?r7s6, ?r7s7, ?r7s8, ?r7s9, ?r7s10, ?r7s11, ?r7s12, ?r7s13, ?r7s14, ?r7s15, trivial⟩
    case r7s0 =>
      intro v W hE hd; simp only [Region.wanted, ↓reduceIte]; (try simp [deps, waitsOn, Region.binds, knowing, isV, ownsV, anyV] at hd); simp only [putAll, List.take_succ_cons, List.take_zero, List.drop_succ_cons, List.drop_zero, Act.put, List.setIfInBounds_toArray, List.set_cons_zero, List.set_cons_succ, Nat.zero_add, Nat.reduceAdd]; go_simp; exact ⟨Below.refl _ _, rfl⟩
    case r7s1 =>
      intro v W hE hd; simp only [Region.wanted, ↓reduceIte]; (try simp [deps, waitsOn, Region.binds, knowing, isV, ownsV, anyV] at hd); simp only [putAll, List.take_succ_cons, List.take_zero, List.drop_succ_cons, List.drop_zero, Act.put, List.setIfInBounds_toArray, List.set_cons_zero, List.set_cons_succ, Nat.zero_add, Nat.reduceAdd]; go_simp; exact ⟨Below.refl _ _, rfl⟩
    case r7s2 =>
      intro v W hE hd; simp only [Region.wanted, ↓reduceIte]; (try simp [deps, waitsOn, Region.binds, knowing, isV, ownsV, anyV] at hd); simp only [putAll, List.take_succ_cons, List.take_zero, List.drop_succ_cons, List.drop_zero, Act.put, List.setIfInBounds_toArray, List.set_cons_zero, List.set_cons_succ, Nat.zero_add, Nat.reduceAdd]; go_simp; exact ⟨Below.refl _ _, rfl⟩
    case r7s3 =>
      intro v W hE hd; simp only [Region.wanted, ↓reduceIte]; (try simp [deps, waitsOn, Region.binds, knowing, isV, ownsV, anyV] at hd); simp only [putAll, List.take_succ_cons, List.take_zero, List.drop_succ_cons, List.drop_zero, Act.put, List.setIfInBounds_toArray, List.set_cons_zero, List.set_cons_succ, Nat.zero_add, Nat.reduceAdd]
      have e1 := cell_below hE C2.out
      go_simp
      exact ⟨Below.refl _ _, rfl⟩
    case r7s4 =>
      intro v W hE hd; simp only [Region.wanted, ↓reduceIte]; (try simp [deps, waitsOn, Region.binds, knowing, isV, ownsV, anyV] at hd); simp only [putAll, List.take_succ_cons, List.take_zero, List.drop_succ_cons, List.drop_zero, Act.put, List.setIfInBounds_toArray, List.set_cons_zero, List.set_cons_succ, Nat.zero_add, Nat.reduceAdd]; go_simp; exact ⟨Below.refl _ _, rfl⟩
    case r7s5 =>
      intro v W hE hd; simp only [Region.wanted, ↓reduceIte]; (try simp [deps, waitsOn, Region.binds, knowing, isV, ownsV, anyV] at hd); simp only [putAll, List.take_succ_cons, List.take_zero, List.drop_succ_cons, List.drop_zero, Act.put, List.setIfInBounds_toArray, List.set_cons_zero, List.set_cons_succ, Nat.zero_add, Nat.reduceAdd]; go_simp; exact ⟨Below.refl _ _, rfl⟩
    case r7s6 =>
      intro v W hE hd; simp only [Region.wanted, ↓reduceIte]; (try simp [deps, waitsOn, Region.binds, knowing, isV, ownsV, anyV] at hd); simp only [putAll, List.take_succ_cons, List.take_zero, List.drop_succ_cons, List.drop_zero, Act.put, List.setIfInBounds_toArray, List.set_cons_zero, List.set_cons_succ, Nat.zero_add, Nat.reduceAdd]; go_simp; exact ⟨Below.refl _ _, rfl⟩
    case r7s7 =>
      intro v W hE hd; simp only [Region.wanted, ↓reduceIte]; (try simp [deps, waitsOn, Region.binds, knowing, isV, ownsV, anyV] at hd); simp only [putAll, List.take_succ_cons, List.take_zero, List.drop_succ_cons, List.drop_zero, Act.put, List.setIfInBounds_toArray, List.set_cons_zero, List.set_cons_succ, Nat.zero_add, Nat.reduceAdd]; go_simp; exact ⟨Below.refl _ _, rfl⟩
    case r7s8 =>
      intro v W hE hd; simp only [Region.wanted, ↓reduceIte]; (try simp [deps, waitsOn, Region.binds, knowing, isV, ownsV, anyV] at hd); simp only [putAll, List.take_succ_cons, List.take_zero, List.drop_succ_cons, List.drop_zero, Act.put, List.setIfInBounds_toArray, List.set_cons_zero, List.set_cons_succ, Nat.zero_add, Nat.reduceAdd]
      have e1 := cell_below hE C2.out
      go_simp
      exact ⟨Below.refl _ _, rfl⟩
    case r7s9 =>
      intro v W hE hd; simp only [Region.wanted, ↓reduceIte]; (try simp [deps, waitsOn, Region.binds, knowing, isV, ownsV, anyV] at hd); simp only [putAll, List.take_succ_cons, List.take_zero, List.drop_succ_cons, List.drop_zero, Act.put, List.setIfInBounds_toArray, List.set_cons_zero, List.set_cons_succ, Nat.zero_add, Nat.reduceAdd]; go_simp; exact ⟨Below.refl _ _, rfl⟩
    case r7s10 =>
      intro v W hE hd; simp only [Region.wanted, ↓reduceIte]; (try simp [deps, waitsOn, Region.binds, knowing, isV, ownsV, anyV] at hd); simp only [putAll, List.take_succ_cons, List.take_zero, List.drop_succ_cons, List.drop_zero, Act.put, List.setIfInBounds_toArray, List.set_cons_zero, List.set_cons_succ, Nat.zero_add, Nat.reduceAdd]; go_simp; exact ⟨Below.refl _ _, rfl⟩
    case r7s11 =>
      intro v W hE hd; simp only [Region.wanted, ↓reduceIte]; (try simp [deps, waitsOn, Region.binds, knowing, isV, ownsV, anyV] at hd); simp only [putAll, List.take_succ_cons, List.take_zero, List.drop_succ_cons, List.drop_zero, Act.put, List.setIfInBounds_toArray, List.set_cons_zero, List.set_cons_succ, Nat.zero_add, Nat.reduceAdd]; go_simp; exact ⟨Below.refl _ _, rfl⟩
    case r7s12 =>
      intro v W hE hd; simp only [Region.wanted, ↓reduceIte]; (try simp [deps, waitsOn, Region.binds, knowing, isV, ownsV, anyV] at hd); simp only [putAll, List.take_succ_cons, List.take_zero, List.drop_succ_cons, List.drop_zero, Act.put, List.setIfInBounds_toArray, List.set_cons_zero, List.set_cons_succ, Nat.zero_add, Nat.reduceAdd]
      have e1 := cell_below hE F1.out
      go_simp
      exact ⟨Below.refl _ _, rfl⟩
    case r7s13 =>
      intro v W hE hd; simp only [Region.wanted, ↓reduceIte]; (try simp [deps, waitsOn, Region.binds, knowing, isV, ownsV, anyV] at hd); simp only [putAll, List.take_succ_cons, List.take_zero, List.drop_succ_cons, List.drop_zero, Act.put, List.setIfInBounds_toArray, List.set_cons_zero, List.set_cons_succ, Nat.zero_add, Nat.reduceAdd]; go_simp; exact ⟨Below.refl _ _, rfl⟩
    case r7s14 =>
      intro v W hE hd; simp only [Region.wanted, ↓reduceIte]; (try simp [deps, waitsOn, Region.binds, knowing, isV, ownsV, anyV] at hd); simp only [putAll, List.take_succ_cons, List.take_zero, List.drop_succ_cons, List.drop_zero, Act.put, List.setIfInBounds_toArray, List.set_cons_zero, List.set_cons_succ, Nat.zero_add, Nat.reduceAdd]; go_simp; exact ⟨Below.refl _ _, rfl⟩
    case r7s15 =>
      intro v W hE hd; simp only [Region.wanted, ↓reduceIte]; (try simp [deps, waitsOn, Region.binds, knowing, isV, ownsV, anyV] at hd); simp only [putAll, List.take_succ_cons, List.take_zero, List.drop_succ_cons, List.drop_zero, Act.put, List.setIfInBounds_toArray, List.set_cons_zero, List.set_cons_succ, Nat.zero_add, Nat.reduceAdd]; go_simp; exact ⟨Below.refl _ _, rfl⟩
  · rintro v W hE ⟨-, -, -, -, -, -, -, -, -, -, -, -, -, e13, -, e15, -⟩
    have e13 := (show v 13 = _ from e13)
    have e15 := (show v 15 = _ from e15)
    simp only [putAll, List.take_succ_cons, List.take_zero, List.drop_succ_cons, List.drop_zero, Act.put, List.setIfInBounds_toArray, List.set_cons_zero, List.set_cons_succ, Nat.zero_add, Nat.reduceAdd]
    rw [e13, e15]
    have g2 := cell_below hE F2.out
    have gz : W.frozen? ⟨gb, k * 3 + 2, none⟩ = false := (World.frozen?_of_block (a := ⟨gb, k * 3 + 2, none⟩) (hE.block gb hgb)).trans FZ.out
    have HE := hid hE
    clear e13 e15 hE
    go_wp2
    go_ret
    have HW := H1.out.ext HE.out
    have hbk : ∀ j, j ≠ gb → (W.setCell ⟨gb, k * 3 + 2, none⟩ (.int .i64 (n1 : Int))).heap[j]? = W.heap[j]? := fun j hj => heap_setCell_other W ⟨gb, k * 3 + 2, none⟩ j _ hj
    obtain ⟨cs, ho, hr⟩ := HO.out.ext HE.out fun k hk => hk.1
    have hst := World.ownsRow.stored ho (k * 3 + 2) (.int .i64 (n1 : Int))
    have hrs := rows_sync (s := n1) (k := k) (by omega) hr
    have hsz := HE.out.size
    have hF' : F.set k (nm, (⟨f.b, f.b.length⟩ : File)) = F.set k ((F[k]'(by omega)).1, ⟨(F[k]'(by omega)).2.b, n1⟩) := by rw [HFk.out, Hn1.out]
    refine ⟨by rw [e3.out]; rfl, S, gb, ?_, S1.out.trans ⟨⟨HE.out.os, HE.out.tape, HE.out.output, by simpa using hsz, fun j hj h1 h2 => (hbk j h2).trans (HE.out.block j hj)⟩, fun _ _ => Iff.rfl, fun j hj => HW.fresh j (by simpa using hj)⟩ (.inl rfl), .inl rfl⟩
    rw [e4.out, hF']
    refine ⟨(World.cell?_of_block (a := ⟨y, 0, none⟩) (hbk y hgy.symm)).trans HW.quota, (World.cell?_of_block (a := ⟨y, 1, none⟩) (hbk y hgy.symm)).trans HW.left, fun j => (World.frozen?_of_block (a := ⟨y, j, none⟩) (hbk y hgy.symm)).trans (HW.free j), ⟨.slice (some ⟨gb, 0, none⟩) N c0, (World.cell?_of_block (a := ⟨y, 2, none⟩) (hbk y hgy.symm)).trans (cell_below HE.out C2.out), ⟨cs.set (k * 3 + 2) (.int .i64 (n1 : Int)), ?_, ?_⟩, .inr ⟨rfl, hgy⟩⟩, HW.own, HW.ownG, by simpa using HW.glt, fun j hj => HW.fresh j (by simpa using hj), by rw [List.length_set]; exact HW.few, ?_, ?_, HW.lr⟩
    · rw [List.length_set, HN.out]; exact hst.1
    · refine (hrs.mono fun j hj => (⟨Nat.lt_of_lt_of_le hj.1 hsz, hj.2⟩ : Imm W S j)).ext (fun j hj => hbk j fun e => hj.2 (by rw [e]; exact HW.ownG)) |>.mono fun j hj => ⟨by simpa using hj.1, hj.2⟩
    · rw [← hF', ← putF_set HW.up (by omega) _ (by rw [HFk.out])]; exact up_putF HW.up _ _
    · rw [← hF', ← putF_set HW.up (by omega) _ (by rw [HFk.out])]
      have := HW.ok F[k] (List.getElem_mem _)
      rw [HFk.out] at this
      exact ok_putF HW.ok _ ⟨this.1, Nat.le_refl _⟩
end Go.Proofs.YtpipmkaljkhgiaaDoor
