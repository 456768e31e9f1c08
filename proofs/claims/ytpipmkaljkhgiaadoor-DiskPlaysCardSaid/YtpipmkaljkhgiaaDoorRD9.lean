/- The reference's disk: Remove, Rename, Fuse. -/
import Derived.Test.YtpipmkaljkhgiaaDoorRD8
namespace Go.Proofs.YtpipmkaljkhgiaaDoor
open Go Go.RowKit
set_option linter.unusedSimpArgs false
set_option linter.unusedVariables false

set_option maxRecDepth 100000 in
set_option maxHeartbeats 2000000 in
theorem remove_ref {w : World} {S : Nat → Prop} {y g : Nat} {q l : Int} {F : Files} (h : RefIs w S y g q l F) (nm : List UInt8) :
    Calls Tryd.prog 41 #[.pointer (some ⟨y, 0, none⟩), .string (str nm)] w fun e w' => e = .returned (.int .i64 (knownEF l F nm)) ∧ ∃ S' g', RefIs w' S' y g' q (burnL l) (dropF l F nm) ∧ RStep w w' S S' y g ∧ (g' = g ∨ w.heap.size ≤ g') := by
  have H := hid h
  clear h
  go_enter Tryd.func41, Tryd.ntmps41
  go_wp2_with fail
  refine (burn_ref H.out).mono ?_
  rintro e w1 ⟨rfl, hR, hS⟩
  have H1 := hid hR; have S1 := hid hS
  clear hR hS
  by_cases h0 : l = 0
  · rw [decide_eq_true h0]
    have e3 := hid (show knownEF l F nm = 14 by unfold knownEF; rw [if_pos h0])
    have e4 := hid (show dropF l F nm = F by unfold dropF; rw [if_pos h0])
    go_wp2
    go_ret
    exact ⟨by rw [e3.out]; rfl, S, g, by rw [e4.out]; exact H1.out, S1.out, .inl rfl⟩
  rw [decide_eq_false h0]
  go_wp2_with fail
  refine (at_ref H1.out nm).mono ?_
  rintro e w' ⟨rfl, rfl⟩
  rcases idx_cases F nm with ⟨hat, hi⟩ | ⟨k, hk, f, hat, hi, hFk⟩
  · rw [hi]
    have e3 := hid (show knownEF l F nm = 11 by rw [knownEF_at h0, hat]; rfl)
    have e4 := hid (show dropF l F nm = F by unfold dropF; rw [if_neg h0, hat])
    clear hi hat
    go_wp2
    go_ret
    exact ⟨by rw [e3.out]; rfl, S, g, by rw [e4.out]; exact H1.out, S1.out, .inl rfl⟩
  rw [hi]
  have e3 := hid (show knownEF l F nm = 0 by rw [knownEF_at h0, hat]; rfl)
  have e4 := hid (show dropF l F nm = delF nm F by unfold dropF; rw [if_neg h0, hat])
  have Hat := hid hat
  have hk00 : ¬ ((k : Int) < 0) := by omega
  clear hi hat hFk
  go_wp2_with fail
  refine (drop_ref H1.out nm f Hat.out).mono ?_
  rintro e w2 ⟨rfl, S', g', hR, hS, hg⟩
  have HR := hid hR; have HS := hid hS; have hg6 := hid hg
  clear hR hS hg
  go_wp2
  go_ret
  have hsz1 := S1.out.kept.size
  exact ⟨by rw [e3.out]; rfl, S', g', by rw [e4.out]; exact HR.out, S1.out.trans HS.out (.inl rfl), hg6.out.imp id fun h => by omega⟩
theorem fuse_ref {w : World} {S : Nat → Prop} {y g : Nat} {q l : Int} {F : Files} (h : RefIs w S y g q l F) (n : Int) (hn : n ≤ 9223372036854775807) :
    Calls Tryd.prog 27 #[.pointer (some ⟨y, 0, none⟩), .int .i64 n] w fun e w' => e = .returned (.tuple #[]) ∧ ∃ S' g', RefIs w' S' y g' q (max n 0) F ∧ RStep w w' S S' y g ∧ (g' = g ∨ w.heap.size ≤ g') := by
  have hmax := run_max0 n (max n 0) rfl
  have hrl := h.relit (max n 0) (by omega)
  obtain ⟨x, hx⟩ : ∃ x, x = max n 0 := ⟨_, rfl⟩
  rw [← hx] at hmax hrl ⊢
  have c1 := h.left
  have c2 := h.free 1
  have Hrl := hid hrl
  have Hf := hid h.fresh
  clear hx h hrl
  go_enter Tryd.func27, Tryd.ntmps27
  go_wp2
  go_end0
  exact ⟨rfl, S, g, Hrl.out.1, ⟨Hrl.out.2, fun _ _ => Iff.rfl, fun k hk => Hf.out k (by simpa using hk)⟩, .inl rfl⟩
theorem atF_delF_ne {F : Files} {a b : List UInt8} (h : b ≠ a) : atF (delF a F) b = atF F b := by rw [atF_del, if_neg h]
set_option maxRecDepth 100000 in
set_option maxHeartbeats 2000000 in
theorem rename_ref {w : World} {S : Nat → Prop} {y g : Nat} {q l : Int} {F : Files} (h : RefIs w S y g q l F) (na nb : List UInt8) (hnb : nb.length ≤ 9223372036854775807) :
    Calls Tryd.prog 39 #[.pointer (some ⟨y, 0, none⟩), .string (str na), .string (str nb)] w fun e w' => e = .returned (.int .i64 (renEF l F na nb)) ∧ ∃ S' g', RefIs w' S' y g' q (burnL l) (renF l F na nb) ∧ RStep w w' S S' y g ∧ (g' = g ∨ w.heap.size ≤ g') := by
  have H := hid h
  clear h
  go_enter Tryd.func39, Tryd.ntmps39
  go_wp2_with fail
  refine (burn_ref H.out).mono ?_
  rintro e w1 ⟨rfl, hR, hS⟩
  have H1 := hid hR; have S1 := hid hS
  clear hR hS
  by_cases h0 : l = 0
  · rw [decide_eq_true h0]
    have e3 := hid (show renEF l F na nb = 14 by unfold renEF; rw [if_pos h0])
    have e4 := hid (show renF l F na nb = F by unfold renF; rw [e3.out]; split <;> rfl)
    go_wp2
    go_ret
    exact ⟨by rw [e3.out]; rfl, S, g, by rw [e4.out]; exact H1.out, S1.out, .inl rfl⟩
  rw [decide_eq_false h0]
  go_wp2_with fail
  refine (at_ref H1.out na).mono ?_
  rintro e w' ⟨rfl, rfl⟩
  rcases idx_cases F na with ⟨hat, hi⟩ | ⟨k, hk, f, hat, hi, hFk⟩
  · rw [hi]
    have e3 := hid (show renEF l F na nb = 11 by unfold renEF; rw [if_neg h0, if_pos hat])
    have e4 := hid (show renF l F na nb = F by unfold renF; rw [hat])
    clear hi hat
    go_wp2
    go_ret
    exact ⟨by rw [e3.out]; rfl, S, g, by rw [e4.out]; exact H1.out, S1.out, .inl rfl⟩
  rw [hi]
  have Hat := hid hat
  have hk00 : ¬ ((k : Int) < 0) := by omega
  clear hi hat
  go_wp2_with fail
  refine (refMay_at nb _ hnb).mono ?_
  rintro e w' ⟨rfl, rfl⟩
  cases hmay : mayB nb
  · have e3 := hid (show renEF l F na nb = 5 by unfold renEF; rw [if_neg h0, if_neg (by rw [Hat.out]; simp), if_pos hmay])
    have e4 := hid (show renF l F na nb = F by unfold renF; rw [e3.out, Hat.out]; rfl)
    clear hmay
    go_wp2
    go_ret
    exact ⟨by rw [e3.out]; rfl, S, g, by rw [e4.out]; exact H1.out, S1.out, .inl rfl⟩
  have Hmay := hid hmay; clear hmay
  go_wp2_with fail
  refine (at_ref H1.out nb).mono ?_
  rintro e w' ⟨rfl, rfl⟩
  rcases idx_cases F nb with ⟨hat2, hi2⟩ | ⟨k2, hk2, f2, hat2, hi2, -⟩
  rotate_left
  · rw [hi2]
    have e3 := hid (show renEF l F na nb = 12 by unfold renEF; rw [if_neg h0, if_neg (by rw [Hat.out]; simp), if_neg (by rw [Hmay.out]; decide), if_pos (by rw [hat2]; rfl)])
    have e4 := hid (show renF l F na nb = F by unfold renF; rw [e3.out, Hat.out]; rfl)
    have hk200 : (0 : Int) ≤ (k2 : Int) := by omega
    clear hi2 hat2
    go_wp2
    go_ret
    exact ⟨by rw [e3.out]; rfl, S, g, by rw [e4.out]; exact H1.out, S1.out, .inl rfl⟩
  rw [hi2]
  have e3 := hid (show renEF l F na nb = 0 by unfold renEF; rw [if_neg h0, if_neg (by rw [Hat.out]; simp), if_neg (by rw [Hmay.out]; decide), if_neg (by rw [hat2]; decide)])
  have e4 := hid (show renF l F na nb = putF nb f (delF na F) by unfold renF; rw [e3.out, Hat.out]; rfl)
  clear hi2 hat2
  obtain ⟨A0, c0, c2, hc, hcm, hcell⟩ := H1.out.reads
  obtain ⟨gb, A1, c1, rfl, hgb, f0, f1, f2, hl1, hl2, hr⟩ := hcell k hk
  rw [hFk] at f0 f1 f2 hl1 hr
  have hok := H1.out.ok F[k] (List.getElem_mem _)
  rw [hFk] at hok
  have Hok := hid hok
  obtain ⟨n, hn⟩ : ∃ n, n = f.b.length := ⟨_, rfl⟩
  have f1' : w1.cell? ⟨gb, k * 3 + 1, none⟩ = some (.slice A1 n c1) := by rw [hn]; exact f1
  obtain ⟨N, hN⟩ : ∃ N, N = F.length := ⟨_, rfl⟩
  rw [← hN] at c2 hc
  have hl1' : n ≤ c1 := by rw [hn]; exact hl1
  have Hn := hid hn
  have Hr := hid hr
  have hkN : (k : Int) < (N : Int) := by omega
  have hk0 : (0 : Int) ≤ (k : Int) := by omega
  have hN200 : N ≤ 200 := by have := H1.out.few; omega
  clear hFk hcell f1 hn hN hr hok hl1
  have HEb := hid (show Ext w1 (w1.alloc (.cells #[.string (str na), .slice A1 n c1, .int .i64 (f.safe : Int)] 75)) from (Below.refl _ _).alloc (Nat.le_refl _) _)
  have Hbx := hid (heap_alloc_last w1 (.cells #[.string (str na), .slice A1 n c1, .int .i64 (f.safe : Int)] 75))
  go_wp2_with fail
  refine (drop_ref (H1.out.ext HEb.out) na f Hat.out).mono ?_
  rintro e w2 ⟨rfl, S', g', hR, hS, hg⟩
  have hsz1 := S1.out.kept.size
  have hszb := HEb.out.size
  have hne1 : w1.heap.size ≠ y := by have := H1.out.lt; omega
  have hne2 : w1.heap.size ≠ g := by have := H1.out.glt; omega
  have hbk := (hS.kept.block w1.heap.size (by simp) hne1 hne2).trans Hbx.out
  have b1 : w2.cell? ⟨w1.heap.size, 1, none⟩ = some (.slice A1 n c1) := by rw [cell_of_row _ _ _ _ _ _ hbk]; rfl
  have b2 : w2.cell? ⟨w1.heap.size, 2, none⟩ = some (.int .i64 (f.safe : Int)) := by rw [cell_of_row _ _ _ _ _ _ hbk]; rfl
  have hS12 := (RStep.of_ext HEb.out H1.out.fresh).trans hS (.inl rfl)
  have hrel : RFile.rel w2 (Imm w2 S') (nb, ⟨f.b, f.safe⟩) [strV nb, .slice A1 n c1, .int .i64 (f.safe : Int)] := by
    rw [Hn.out]
    refine rfile_mk (p := (nb, ⟨f.b, f.safe⟩)) (by rw [← Hn.out]; exact hl1') hl2 ?_
    refine (RK.ext Hr.out fun j hj => hS12.kept.block j hj.1 ?_ ?_).mono fun j hj => ⟨Nat.lt_of_lt_of_le hj.1 hS12.kept.size, fun hs => hj.2 ((hS12.same j hj.1).1 hs)⟩
    · rintro rfl; exact hj.2 H1.out.own
    · rintro rfl; exact hj.2 H1.out.ownG
  have HR := hid hR; have HS := hid hS; have Hg := hid hg; have Hrel := hid hrel
  clear hR hS hg hrel hbk hS12 c2 f0 f2 f1'
  go_wp2_with fail
  refine (put_ref' HR.out nb f.b f.safe A1 n c1 (f.safe : Int) Hn.out rfl Hrel.out Hok.out (.inl (by have := length_delF_there H1.out.up Hat.out; have := H1.out.few; omega))).mono ?_
  rintro e w7 ⟨rfl, S2, g2, hR, hS, hg⟩
  have HR2 := hid hR; have HS2 := hid hS; have Hg2 := hid hg
  clear hR hS hg
  go_wp2
  go_ret
  have hs2 := HS.out.kept.size
  have hgg : g' = g ∨ w.heap.size ≤ g' := Hg.out.imp id fun h => by omega
  refine ⟨by rw [e3.out]; rfl, S2, g2, by rw [e4.out]; exact HR2.out, ((S1.out.trans (RStep.of_ext HEb.out H1.out.fresh) (.inl rfl)).trans HS.out (.inl rfl)).trans HS2.out hgg, ?_⟩
  rcases Hg2.out with h | h
  · rw [h]; exact hgg
  · exact .inr (by omega)
end Go.Proofs.YtpipmkaljkhgiaaDoor
