/- The reference's disk: Turn. -/
import Derived.Test.YtpipmkaljkhgiaaDoorRD9
namespace Go.Proofs.YtpipmkaljkhgiaaDoor
open Go Go.RowKit
set_option linter.unusedSimpArgs false
set_option linter.unusedVariables false

set_option maxRecDepth 100000 in
set_option maxHeartbeats 4000000 in
theorem turn_ref {w : World} {S : Nat → Prop} {y g : Nat} {q l : Int} {F : Files} (h : RefIs w S y g q l F) (nm : List UInt8) (t : Int) :
    Calls Tryd.prog 43 #[.pointer (some ⟨y, 0, none⟩), .string (str nm), .int .i64 t] w fun e w' => e = .returned (.int .i64 (turnEF F nm t)) ∧ ∃ S' g', RefIs w' S' y g' q l (turnF F nm t) ∧ RStep w w' S S' y g ∧ (g' = g ∨ w.heap.size ≤ g') := by
  have H1 := hid h
  have S1 := hid (RStep.of_ext (y := y) (g := g) (Below.refl _ w) h.fresh)
  clear h
  go_enter Tryd.func43, Tryd.ntmps43
  go_wp2_with fail
  refine (at_ref H1.out nm).mono ?_
  rintro e w' ⟨rfl, rfl⟩
  rcases idx_cases F nm with ⟨hat, hi⟩ | ⟨k, hk, f, hat, hi, hFk⟩
  · rw [hi]
    have e3 := hid (show turnEF F nm t = 11 by unfold turnEF; rw [hat])
    have e4 := hid (show turnF F nm t = F by unfold turnF; rw [hat])
    clear hi hat
    go_wp2
    go_ret
    exact ⟨by rw [e3.out]; rfl, S, g, by rw [e4.out]; exact H1.out, S1.out, .inl rfl⟩
  rw [hi]
  obtain ⟨n, hn⟩ : ∃ n, n = f.b.length := ⟨_, rfl⟩
  have e3' : turnEF F nm t = if t < 0 ∨ (n : Int) ≤ t then 1 else 0 := by unfold turnEF; rw [hat, hn]
  have e4' : turnF F nm t = if t < 0 ∨ (n : Int) ≤ t then F else putF nm ⟨turnB f.b t.toNat, f.safe⟩ F := by unfold turnF; rw [hat, hn]
  have Hat := hid hat
  obtain ⟨A0, c0, c2, hc, hcm, hcell⟩ := H1.out.reads
  obtain ⟨gb, A1, c1, rfl, hgb, f0, f1, f2, hl1, hl2, hr⟩ := hcell k hk
  rw [hFk] at f0 f1 f2 hl1 hr
  have hok := H1.out.ok F[k] (List.getElem_mem _)
  rw [hFk] at hok
  have f1' : w.cell? ⟨gb, k * 3 + 1, none⟩ = some (.slice A1 n c1) := by rw [hn]; exact f1
  have f2' : w.cell? ⟨gb, k * 3 + 2, none⟩ = some (.int .i64 (f.safe : Int)) := f2
  obtain ⟨N, hN⟩ : ∃ N, N = F.length := ⟨_, rfl⟩
  rw [← hN] at c2 hc
  rw [← hn] at hl1 hok
  have hn64 : n ≤ 65536 := hok.1
  have hsf : f.safe ≤ n := hok.2
  have Hn := hid hn
  have Hr : Hid (RB w A1 f.b) := RK.rv hr
  have hkN : (k : Int) < (N : Int) := by omega
  have hk0 : (0 : Int) ≤ (k : Int) := by omega
  have hk00 : ¬ ((k : Int) < 0) := by omega
  have hN200 : N ≤ 200 := by have := H1.out.few; omega
  have hylt := H1.out.lt
  clear hi hat hFk hcell f0 f1 f2 hn hN hr hok
  by_cases hb : t < 0 ∨ (n : Int) ≤ t
  · have e3 := hid (e3'.trans (if_pos hb))
    have e4 := hid (e4'.trans (if_pos hb))
    clear e3' e4'
    by_cases ht : t < 0
    all_goals
      have ht2 : 0 ≤ t → (n : Int) ≤ t := by omega
      try have ht3 := ht2 (by omega)
      clear hb ht2
      go_wp2
      go_ret
      exact ⟨by rw [e3.out]; rfl, S, g, by rw [e4.out]; exact H1.out, S1.out, .inl rfl⟩
  have E3 := hid (e3'.trans (if_neg hb))
  have E4 := hid (e4'.trans (if_neg hb))
  clear e3' e4'
  obtain ⟨j, rfl⟩ := Int.eq_ofNat_of_zero_le (show 0 ≤ t by omega)
  rw [Int.toNat_natCast] at E4
  have hj1 : ¬ ((j : Int) < 0) := by omega
  have hj0 : (0 : Int) ≤ (j : Int) := by omega
  have hj2 : ¬ ((n : Int) ≤ (j : Int)) := by omega
  have hjn : (j : Int) < (n : Int) := by omega
  have hjb : j < f.b.length := by have := Hn.out; omega
  have Hu := hid (show turnB f.b j = f.b.set j (f.b[j] ^^^ 1) by unfold turnB; rw [List.getD_eq_getElem?_getD, List.getElem?_eq_getElem hjb]; rfl)
  have HOe := hid (OB_empty w w.heap.size (Nat.le_refl _))
  have HEe := hid (show Ext w (w.alloc (.cells #[] 5)) from (Below.refl _ _).alloc (Nat.le_refl _) _)
  have c2' := cell_below HEe.out c2
  have f1'' := cell_below HEe.out f1'
  have C2 := hid c2; have F2 := hid f2'
  obtain ⟨b, hbq⟩ : ∃ b, b = f.b[j] := ⟨_, rfl⟩
  have hx := xor_one b
  obtain ⟨u, huq⟩ : ∃ u, u = b ^^^ 1 := ⟨_, rfl⟩
  rw [← huq] at hx
  have Hu2 : Hid (turnB f.b j = f.b.set j u) := by rw [huq, hbq]; exact Hu.out
  have Hbq := hid hbq
  clear hb Hu huq hbq f2'
  have Hgg : Hid (∀ g2, w.heap.size ≤ g2 → ¬ (y = g2) ∧ ¬ (g2 = y) ∧ ¬ (gb = g2) ∧ ¬ (g2 = gb)) := fun g2 h => by omega
  go_wp2_with (at_builtin; refine wpList_appB (w0 := w) rfl (.tmp 29) (.tmp 37) rfl w.heap.size _ [] rfl HOe HEe (by simp) A1 c1 n f.b rfl Hn (Hr.out.below HEe.out) (by simp; omega) ?_; intro v2 W2 HO2' HB2 _; have HO2 : Hid (OB W2 w.heap.size v2 f.b) := HO2'; clear HO2'; obtain ⟨g2, cb2, ev2, hg1, hg2, hcb, hcl⟩ := OB.cellAt HO2.out (by omega); rw [← Hn.out] at ev2; subst ev2; have hck := (hcl j hjb).1; have hfk := (hcl j hjb).2; rw [← Hbq.out] at hck; clear hcl c2' f1'' c2 f1'; have c2' := cell_below HB2.out C2.out; have f2' := cell_below HB2.out F2.out; obtain ⟨hne1, hne2, hne3, hne4⟩ := Hgg.out g2 hg1)
  have hst := OB.stored HO2.out Hn.out j u
  have hB3 : Ext w (W2.setCell ⟨g2, j, none⟩ (.int .u8 (u.toNat : Int))) := HB2.setCell hg1 _
  rw [← Hu2.out] at hst
  have hlk : (turnB f.b j).length = n := by unfold turnB; rw [List.length_set]; exact Hn.out.symm
  generalize turnB f.b j = X at hst hlk E4 Hu2
  generalize W2.setCell ⟨g2, j, none⟩ (.int .u8 (u.toNat : Int)) = W3 at hst hB3 ⊢
  obtain ⟨Ax, cx, ex, hrel⟩ := own_file (S := S) (nm := nm) (sf := f.safe) hst H1.out.fresh
  rw [hlk] at ex hrel
  simp only [Value.slice.injEq] at ex
  obtain ⟨rfl, -, rfl⟩ := ex
  refine (put_ref' (H1.out.ext hB3) nm X f.safe _ n _ _ hlk.symm rfl hrel (by omega) (.inr ⟨_, Hat.out⟩)).mono ?_
  rintro e w7 ⟨rfl, S', g', hR, hS, hg⟩
  have HR := hid hR; have HS := hid hS; have hg6 := hid hg
  have HB3 := hid hB3
  clear hR hS hg hst hrel hB3
  go_wp2
  go_ret
  have hsz6 := HB3.out.size
  exact ⟨by rw [E3.out]; rfl, S', g', by rw [E4.out]; exact HR.out, (S1.out.trans (RStep.of_ext HB3.out H1.out.fresh) (.inl rfl)).trans HS.out (.inl rfl), hg6.out.imp id fun h => by omega⟩
end Go.Proofs.YtpipmkaljkhgiaaDoor
