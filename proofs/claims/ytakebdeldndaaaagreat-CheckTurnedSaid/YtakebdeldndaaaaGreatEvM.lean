/- Which events may be, as the document says. -/
import Derived.Test.YtakebdeldndaaaaGreatEv2
import Derived.Test.YtakebdeldndaaaaGreatFound
namespace Go.Proofs.YtakebdeldndaaaaGreat
open Go Go.RowKit
set_option linter.unusedSimpArgs false
set_option linter.unusedVariables false

def fitF (f : Str × Int) : Bool := decide (-1099511627776 ≤ f.2) && decide (f.2 ≤ 1099511627776)
/-- What is wrong with an event. -/
def mayEv (e : EvV) : Int :=
  if (!mayN e.st || !mayN e.ty) = true then 5 else if (decide (6 < e.tags.length) || decide (4 < e.fields.length)) = true then 3
  else if (e.fields.any fun f => !mayN f.1) = true then 5 else if (!e.tags.all tagN) = true then 5
  else if (!e.fields.all fitF || !riseB e.tags || !riseB (e.fields.map (·.1))) = true then 1 else 0
theorem txtinfo : SlInfo Tryz.prog 43 9 (.string ⟨#[]⟩) Rep.txt.size 16 := ⟨Tryz.underlying43, by kernel_rfl, rfl, by decide⟩
theorem all_take {p : Str × Int → Bool} (fs : List (Str × Int)) (k : Nat) (hk : k < fs.length) : (fs.take (k + 1)).all p = ((fs.take k).all p && p fs[k]) := by
  rw [List.take_succ_eq_append_getElem hk, List.all_append]; simp
theorem names_take (fs : List (Str × Int)) (k : Nat) (hk : k < fs.length) : (fs.map (·.1)).take (k + 1) = (fs.map (·.1)).take k ++ [fs[k].1] := by
  rw [List.take_succ_eq_append_getElem (by simpa using hk)]; simp
set_option maxRecDepth 100000 in
set_option maxHeartbeats 4000000 in
theorem refMayEv_at {w : World} {A B : Option Addr} {n c m d : Nat} {e : EvV} (h : EvIn w A n c B m d e) :
    Calls Tryz.prog 17 #[evVal A n c B m d e] w fun x w' => x = .returned (.int .i64 (mayEv e)) ∧ Ext w w' := by
  unfold evVal
  have hn := hid h.tags.1
  have hm := hid h.fields.1
  have H := hid h
  clear h
  have HE0 := hid (ext_alloc (w) (.cells #[.string (str e.st), .string (str e.ty), .slice A n c, .slice B m d] 62))
  have Hbx := hid (show EvBox (w).heap.size A n c B m d e ((w).alloc (.cells #[.string (str e.st), .string (str e.ty), .slice A n c, .slice B m d] 62)) from heap_alloc_last _ _)
  obtain ⟨b0, b1, -, -⟩ := Hbx.out.cells
  go_enter Tryz.func17, Tryz.ntmps17
  go_wp2_with fail
  generalize w.alloc (.cells #[.string (str e.st), .string (str e.ty), .slice A n c, .slice B m d] 62) = w1 at HE0 Hbx b0 b1 ⊢
  refine (refMayN_at e.st w1).mono ?_
  rintro x w2 ⟨rfl, hE⟩
  have b1' := cell_later hE b1
  have HE2 := hid (Ext.trans' HE0.out hE)
  have Hbx2 := hid (Hbx.out.ext hE)
  clear hE b0 b1 HE0 Hbx
  go_wp2_with fail
  refine (refMayN_at e.ty w2).mono ?_
  rintro x w3 ⟨rfl, hE⟩
  have HE3 := hid (Ext.trans' HE2.out hE)
  have Hbx3 := hid (Hbx2.out.ext hE)
  clear hE b1' HE2 Hbx2
  obtain ⟨-, -, b2, b3⟩ := Hbx3.out.cells
  cases h1 : mayN e.st
  · have hr := hid (show mayEv e = 5 by unfold mayEv; rw [h1]; rfl)
    go_wp2
    go_ret
    exact ⟨by rw [hr.out]; rfl, HE3.out⟩
  cases h2 : mayN e.ty
  · have hr := hid (show mayEv e = 5 by unfold mayEv; rw [h1, h2]; rfl)
    go_wp2
    go_ret
    exact ⟨by rw [hr.out]; rfl, HE3.out⟩
  have Hm1 := hid (show mayEv e = if (decide (6 < e.tags.length) || decide (4 < e.fields.length)) = true then 3
    else if (e.fields.any fun f => !mayN f.1) = true then 5 else if (!e.tags.all tagN) = true then 5
    else if (!e.fields.all fitF || !riseB e.tags || !riseB (e.fields.map (·.1))) = true then 1 else 0 by unfold mayEv; rw [h1, h2]; rfl)
  clear h1 h2
  by_cases h6 : 6 < n
  · have g6 : (6 : Int) < (n : Int) := by omega
    have hr := hid (show mayEv e = 3 by rw [Hm1.out, ← hn.out, decide_eq_true h6]; rfl)
    go_wp2
    go_ret
    exact ⟨by rw [hr.out]; rfl, HE3.out⟩
  have g6 : ¬ ((6 : Int) < (n : Int)) := by omega
  by_cases h4 : 4 < m
  · have g4 : (4 : Int) < (m : Int) := by omega
    have hr := hid (show mayEv e = 3 by rw [Hm1.out, ← hm.out, decide_eq_true h4, Bool.or_true]; rfl)
    go_wp2
    go_ret
    exact ⟨by rw [hr.out]; rfl, HE3.out⟩
  have g4 : ¬ ((4 : Int) < (m : Int)) := by omega
  have Hm2 := hid (show mayEv e = if (e.fields.any fun f => !mayN f.1) = true then 5 else if (!e.tags.all tagN) = true then 5
    else if (!e.fields.all fitF || !riseB e.tags || !riseB (e.fields.map (·.1))) = true then 1 else 0 by rw [Hm1.out, ← hn.out, ← hm.out, decide_eq_false h6, decide_eq_false h4]; rfl)
  have hm4 : m ≤ 4 := by omega
  clear Hm1 h6 h4
  go_wp2_with fail
  clear b2 b3
  go_loopw [5, 6, 7] (fun v f i wr => ∃ k : Nat, k ≤ m ∧ i = .int .i64 (k : Int) ∧ f = .bool ((e.fields.take k).all fitF) ∧ Hid (OwnK Rep.txt 9 (fun _ => False) wr w3.heap.size v ((e.fields.map (·.1)).take k)) ∧ Hid (Ext w3 wr) ∧ Hid (∀ j (hj : j < k) (h : j < e.fields.length), mayN e.fields[j].1 = true)) (fun _ _ i _ => m - (intOf i).toNat)
  case atStart => exact ⟨0, by omega, rfl, rfl, OwnK.empty w3 _ (Nat.le_refl _), ext_alloc _ _, fun j hj => by omega⟩
  case round =>
    obtain ⟨k, hk, rfl, rfl, HO, HE, HN⟩ := hrel
    obtain ⟨-, -, b2, b3⟩ := Hbx3.out.cells
    have B2 := hid b2; have B3 := hid b3
    clear b2 b3
    have b3 := cell_later HE.out B3.out
    by_cases hlt : k < m
    · have hkx : k < e.fields.length := by have := hm.out; omega
      have hlt' : (k : Int) < (m : Int) := by omega
      have hk00 : ¬ ((k : Int) < 0) := by omega
      have hk0 : (0 : Int) ≤ (k : Int) := by omega
      obtain ⟨b, o, rfl, -, f0, f1, hsh⟩ := field_at (H.out.grow HE3.out).fields k hkx
      have Hx := hid (show e.fields[k].1 = e.fields[k].1 from rfl)
      have Hno := hid (show ∀ (hp : mayN e.fields[k].1 = true) j (hj : j < k + 1) (h : j < e.fields.length), mayN e.fields[j].1 = true from fun hp j hj h => by
        rcases Nat.lt_succ_iff_lt_or_eq.1 hj with h' | rfl
        · exact HN.out j h' h
        · exact hp)
      have Hbad := hid (show mayN e.fields[k].1 = false → (e.fields.any fun f => !mayN f.1) = true from fun hp => List.any_eq_true.2 ⟨_, List.getElem_mem hkx, by rw [hp]; rfl⟩)
      have Hfk := hid (show fitF e.fields[k] = (decide (-1099511627776 ≤ e.fields[k].2) && decide (e.fields[k].2 ≤ 1099511627776)) from rfl)
      obtain ⟨fe, hfk⟩ : ∃ fe, fe = fitF e.fields[k] := ⟨_, rfl⟩
      generalize hxe : e.fields[k].1 = x at f0 hsh Hno Hbad
      generalize hye : e.fields[k].2 = y at f1 Hfk
      have Hxe := hid hxe
      clear hxe hye Hx HN
      have F0 := hid f0; have F1 := hid f1
      clear f1 f0
      have f0 := cell_later HE.out F0.out
      go_wp2_with fail
      clear f0 b3
      refine (refMayN_at x wr).mono ?_
      rintro z w4 ⟨rfl, hE⟩
      have HE1 := hid (Ext.trans' HE.out hE)
      have Hwr := hid hE
      clear hE
      cases hp : mayN x
      · have hr := hid (show mayEv e = 5 by rw [Hm2.out, if_pos (Hbad.out hp)])
        go_wp2
        go_ret
        exact ⟨by rw [hr.out]; rfl, Ext.trans' HE3.out HE1.out⟩
      · have hno2 := hid (Hno.out hp)
        have b3 := cell_later HE1.out B3.out
        have f0 := cell_later HE1.out F0.out
        have Hts := hid (show (e.fields.map (·.1)).take (k + 1) = (e.fields.map (·.1)).take k ++ [x] by rw [names_take _ _ hkx, Hxe.out])
        have hlen : ((e.fields.map (·.1)).take k).length ≤ 4 := by rw [List.length_take, List.length_map, ← hm.out]; omega
        have hsz4 := HE1.out.size
        have HO4 := hid (HO.out.ext Hwr.out fun _ h => h.elim)
        have Hbox := hid (show ∃ cs, Rows Rep.txt (w4.alloc (.cells #[.string (str x)] 9)) (fun _ => False) [x] cs ∧ RV (w4.alloc (.cells #[.string (str x)] 9)) (some ⟨w4.heap.size, 0, none⟩) cs from ⟨[.string (str x)], Rows.single ⟨rfl, hsh⟩, RV.box w4 _ _⟩)
        have HAb := hid (HO4.out.ext (ext_alloc w4 (.cells #[.string (str x)] 9)) fun _ h => h.elim)
        have HBb := hid (HE1.out.alloc hsz4 (.cells #[.string (str x)] 9))
        have Hall := hid (all_take (p := fitF) e.fields k hkx)
        rw [← hfk] at Hall Hfk
        generalize (e.fields.take k).all fitF = fk at Hall ⊢
        go_wp2_with (at_builtin; refine wpList_appK (w0 := w3) (R := Rep.txt) (xs := (e.fields.map (·.1)).take k) (base := w3.heap.size) txtinfo rfl (.tmp 51) (.tmp 58) rfl rfl HAb (fun _ h => h.elim) HBb (by simp; omega) (some ⟨w4.heap.size, 0, none⟩) 1 1 [x] rfl rfl Hbox (by omega) (by omega) ?_; intro v2 W2 HA2 HB2 _; clear f0 b3; have f1 := cell_later HB2.out F1.out; have b3 := cell_later HB2.out B3.out)
        all_goals
          go_roundw
          case rel => exact ⟨k + 1, by omega, by go_num, by rw [Hall.out, Hfk.out]; simp [*], by rw [Hts.out]; exact HA2, HB2, hno2⟩
          case measure => simp [intOf]; omega
    · obtain rfl : k = m := by omega
      have hlt' : ¬ ((k : Int) < (k : Int)) := by omega
      have ht1 : e.fields.take k = e.fields := List.take_of_length_le (by rw [← hm.out]; exact Nat.le_refl _)
      have ht2 : (e.fields.map (·.1)).take k = e.fields.map (·.1) := List.take_of_length_le (by rw [List.length_map, ← hm.out]; exact Nat.le_refl _)
      rw [ht1]
      rw [ht2] at HO
      clear ht1 ht2
      obtain ⟨cs0, ho0, hr0⟩ := HO.out
      obtain ⟨A5, c5, rfl, hS⟩ := OwnR.read (R := Rep.txt) ⟨cs0, ho0, hr0.mono fun _ h => h.elim⟩
      have hlk : (e.fields.map (·.1)).length = k := by rw [List.length_map, ← hm.out]
      rw [hlk] at hS ⊢
      clear hlk
      have HS := hid hS
      have Hm3 := hid (show mayEv e = if (!e.tags.all tagN) = true then 5
        else if (!e.fields.all fitF || !riseB e.tags || !riseB (e.fields.map (·.1))) = true then 1 else 0 by
        have : (e.fields.any fun f => !mayN f.1) = false := by
          rw [List.any_eq_false]
          intro x hx
          obtain ⟨j, hj, rfl⟩ := List.getElem_of_mem hx
          rw [HN.out j (by have := hm.out; omega) hj]; decide
        rw [Hm2.out, this]; rfl)
      have b2 := cell_later HE.out B2.out
      have Hbx4 := hid (Hbx3.out.ext HE.out)
      clear ho0 hr0 hS HN Hm2 HO
      have HE4 := hid (Ext.trans' HE3.out HE.out)
      go_wp2_with fail
      clear b2 b3
      refine (refTags_at (H.out.grow HE4.out).tags).mono ?_
      rintro z w5 ⟨rfl, hE⟩
      have HE5 := hid (Ext.trans' HE4.out hE)
      have HS5 := hid (HS.out.grow hE)
      obtain ⟨-, -, b2, -⟩ := (Hbx4.out.ext hE).cells
      clear hE
      cases h1 : e.tags.all tagN
      · have hr := hid (show mayEv e = 5 by rw [Hm3.out, h1]; rfl)
        go_wp2
        go_ret
        exact ⟨by rw [hr.out]; rfl, HE5.out⟩
      have Hm4 := hid (show mayEv e = if (!e.fields.all fitF || !riseB e.tags || !riseB (e.fields.map (·.1))) = true then 1 else 0 by rw [Hm3.out, h1]; rfl)
      clear h1 Hm3
      go_wp2_with fail
      clear b2
      refine (refRise_at (H.out.grow HE5.out).tags).mono ?_
      rintro z w6 ⟨rfl, hE⟩
      have HE6 := hid (Ext.trans' HE5.out hE)
      have HS6 := hid (HS5.out.grow hE)
      clear hE
      go_wp2_with fail
      refine (refRise_at HS6.out).mono ?_
      rintro z w7 ⟨rfl, hE⟩
      have HE7 := hid (Ext.trans' HE6.out hE)
      clear hE
      generalize e.fields.all fitF = r1 at Hm4 ⊢
      generalize riseB e.tags = r2 at Hm4 ⊢
      generalize riseB (e.fields.map (·.1)) = r3 at Hm4 ⊢
      cases r1 <;> cases r2 <;> cases r3
      all_goals
        go_wp2
        go_ret
        exact ⟨by rw [Hm4.out]; rfl, HE7.out⟩
end Go.Proofs.YtakebdeldndaaaaGreat
