/- Several texts of this claim's, one behind the other. -/
import Derived.Test.YtakebdeldndaaaaGreatDoorStor2
import Derived.Test.YtakebdeldndaaaaGreatDoorCk
import Derived.Test.YtakebdeldndaaaaGreatDoorEvx
import Derived.Test.YtakebdeldndaaaaGreatDoorIter
/- check.Save: what it does to a disk; its closures. -/
namespace Go.Proofs.YtakebdeldndaaaaGreatDoor
open Go Go.RowKit
set_option linter.unusedSimpArgs false
set_option linter.unusedVariables false
def nmC : List UInt8 := [99, 104, 101, 99, 107]
def nmN : List UInt8 := [99, 104, 101, 99, 107, 95, 110, 101, 119]
def andS (r : Int × Int × Files) (f : Int → Files → Int × Int × Files) : Int × Int × Files := if r.1 = 0 then f r.2.1 r.2.2 else r
def goneS (l : Int) (F : Files) (nm : List UInt8) : Int × Int × Files := if atF F nm = none then (0, l, F) else (knownEF l F nm, burnL l, dropF l F nm)
def stepS (q : Int) (b : List UInt8) (k : Nat) (l : Int) (F : Files) : Int × Int × Files :=
  if k = 0 then goneS l F nmN else if k = 1 then (appE q l F nmN b, burnL l, appF q l F nmN b) else if k = 2 then (knownEF l F nmN, burnL l, syncF l F nmN)
  else if k = 3 then goneS l F nmC else (renEF l F nmN nmC, burnL l, renF l F nmN nmC)
def restS (q : Int) (b : List UInt8) : Nat → Int → Files → Int × Int × Files
  | 0, l, F => (0, l, F)
  | n + 1, l, F => andS (stepS q b (4 - n) l F) (restS q b n)
def saveS (q : Int) (b : List UInt8) (l : Int) (F : Files) : Int × Int × Files := restS q b 5 l F
theorem Kept2.cell' {d m : Nat} {a b : World} (h : Kept2 d m a b) {p : Addr} {v : Value} (hc : a.cell? p = some v) (h1 : p.block ≠ d) (h2 : p.block ≠ m) : b.cell? p = some v := by
  have hlt := World.block_lt_of_cell? a p hc
  have hb := h.block p.block hlt h1 h2
  have e : b.cell? p = a.cell? p := by unfold World.cell?; rw [hb]
  rw [e]; exact hc
structure SvEnd (w : World) (S : Nat → Prop) (d m : Nat) (q : Int) (x l' : Int) (F' : Files) (e : Ending) (w' : World) : Prop where
  e : e = .returned (.int .i64 x)
  is : DiskIs w' S d m q l' F'
  kept : Kept2 d m w w'
set_option maxRecDepth 100000 in
theorem svGone_at {w : World} {S : Nat → Prop} {d m : Nat} {q l : Int} {F : Files} (h : DiskIs w S d m q l F) {b0 b1 : Nat} {nm : List UInt8} (hn : nm.length ≤ 9223372036854775807) (h0 : w.cell? ⟨b0, 0, none⟩ = some (.pointer (some ⟨d, 0, none⟩))) (h1 : w.cell? ⟨b1, 0, none⟩ = some (.string (str nm))) :
    Calls Tryz.prog 56 #[.pointer (some ⟨b0, 0, none⟩), .pointer (some ⟨b1, 0, none⟩)] w fun e w' => SvEnd w S d m q (goneS l F nm).1 (goneS l F nm).2.1 (goneS l F nm).2.2 e w' := by
  have hrd := readF_at h nm hn
  have H := hid h
  have hE0 := readE F nm
  clear h
  go_enter Tryz.func56, Tryz.ntmps56
  go_wp2_with fail
  refine hrd.mono ?_
  clear hrd
  rintro e w1 ⟨v, rfl, -, hE⟩
  have HE := hid hE
  have c0 := cell_below hE h0
  have c1 := cell_below hE h1
  clear hE h0 h1
  unfold readE
  cases hat : atF F nm with
  | none =>
    have hpost := hid (show SvEnd w S d m q (goneS l F nm).1 (goneS l F nm).2.1 (goneS l F nm).2.2 (.returned (.int .i64 0)) w1 from by
      unfold goneS
      rw [if_pos hat]
      exact ⟨rfl, H.out.ext HE.out, Kept2.of_ext HE.out⟩)
    clear hat
    go_wp2
    go_ret
    exact hpost.out
  | some f =>
    have hcc := remove_at (H.out.ext HE.out) nm hn
    have Hat := hid (show ¬ (atF F nm = none) by rw [hat]; exact fun h => by cases h)
    clear hat
    go_wp2_with fail
    refine hcc.mono ?_
    clear hcc
    rintro e w2 ⟨rfl, hD, hK⟩
    obtain ⟨r, hr⟩ : ∃ r, r = knownEF l F nm := ⟨_, rfl⟩
    have hpost := hid (show SvEnd w S d m q (goneS l F nm).1 (goneS l F nm).2.1 (goneS l F nm).2.2 (.returned (.int .i64 r)) w2 from by
      unfold goneS
      rw [if_neg Hat.out]
      exact ⟨by rw [hr], hD, (Kept2.of_ext HE.out).trans hK⟩)
    rw [← hr]
    clear hD hK hr
    go_wp2
    go_ret
    exact hpost.out
set_option maxRecDepth 100000 in
theorem svAppend_at {w : World} {S : Nat → Prop} {d m : Nat} {q l : Int} {F : Files} (h : DiskIs w S d m q l F) {b0 b1 : Nat} {A : Option Addr} {n c : Nat} {bs : List UInt8} (hnb : n = bs.length) (hn1 : n ≤ 100000000) (hA : RS w (fun k => k = d ∨ k = m) A bs) (h0 : w.cell? ⟨b0, 0, none⟩ = some (.pointer (some ⟨d, 0, none⟩))) (h1 : w.cell? ⟨b1, 0, none⟩ = some (.slice A n c)) :
    Calls Tryz.prog 57 #[.pointer (some ⟨b0, 0, none⟩), .pointer (some ⟨b1, 0, none⟩)] w fun e w' => SvEnd w S d m q (appE q l F nmN bs) (burnL l) (appF q l F nmN bs) e w' := by
  have hcc := append_at2 h nmN (by decide) A n c bs hnb hn1 hA
  clear h hA hnb hn1
  go_enter Tryz.func57, Tryz.ntmps57
  go_wp2_with fail
  refine hcc.mono ?_
  clear hcc
  rintro e w2 ⟨rfl, hD, hK⟩
  obtain ⟨r, hr⟩ : ∃ r, r = appE q l F nmN bs := ⟨_, rfl⟩
  have hpost := hid (show SvEnd w S d m q (appE q l F nmN bs) (burnL l) (appF q l F nmN bs) (.returned (.int .i64 r)) w2 from ⟨by rw [hr], hD, hK⟩)
  rw [← hr]
  clear hD hK hr
  go_wp2
  go_ret
  exact hpost.out
set_option maxRecDepth 100000 in
theorem svSync_at {w : World} {S : Nat → Prop} {d m : Nat} {q l : Int} {F : Files} (h : DiskIs w S d m q l F) {b0 : Nat} (h0 : w.cell? ⟨b0, 0, none⟩ = some (.pointer (some ⟨d, 0, none⟩))) :
    Calls Tryz.prog 58 #[.pointer (some ⟨b0, 0, none⟩)] w fun e w' => SvEnd w S d m q (knownEF l F nmN) (burnL l) (syncF l F nmN) e w' := by
  have hcc := sync_at h nmN (by decide)
  clear h
  go_enter Tryz.func58, Tryz.ntmps58
  go_wp2_with fail
  refine hcc.mono ?_
  clear hcc
  rintro e w2 ⟨rfl, hD, hK⟩
  obtain ⟨r, hr⟩ : ∃ r, r = knownEF l F nmN := ⟨_, rfl⟩
  have hpost := hid (show SvEnd w S d m q (knownEF l F nmN) (burnL l) (syncF l F nmN) (.returned (.int .i64 r)) w2 from ⟨by rw [hr], hD, hK⟩)
  rw [← hr]
  clear hD hK hr
  go_wp2
  go_ret
  exact hpost.out
set_option maxRecDepth 100000 in
theorem svRename_at {w : World} {S : Nat → Prop} {d m : Nat} {q l : Int} {F : Files} (h : DiskIs w S d m q l F) {b0 : Nat} (h0 : w.cell? ⟨b0, 0, none⟩ = some (.pointer (some ⟨d, 0, none⟩))) :
    Calls Tryz.prog 60 #[.pointer (some ⟨b0, 0, none⟩)] w fun e w' => SvEnd w S d m q (renEF l F nmN nmC) (burnL l) (renF l F nmN nmC) e w' := by
  have hcc := rename_at h nmN nmC (by decide) (by decide)
  clear h
  go_enter Tryz.func60, Tryz.ntmps60
  go_wp2_with fail
  refine hcc.mono ?_
  clear hcc
  rintro e w2 ⟨rfl, hD, hK⟩
  obtain ⟨r, hr⟩ : ∃ r, r = renEF l F nmN nmC := ⟨_, rfl⟩
  have hpost := hid (show SvEnd w S d m q (renEF l F nmN nmC) (burnL l) (renF l F nmN nmC) (.returned (.int .i64 r)) w2 from ⟨by rw [hr], hD, hK⟩)
  rw [← hr]
  clear hD hK hr
  go_wp2
  go_ret
  exact hpost.out
structure SvName (w : World) (nm : ByteArray) (b0 : Nat) (e : Ending) (w' : World) : Prop where
  ext : Ext w w'
  ans : ∃ k, e = .returned (.func (.func 56) #[] #[.pointer (some ⟨b0, 0, none⟩), .pointer (some ⟨k, 0, none⟩)]) ∧ w.heap.size ≤ k ∧ w'.cell? ⟨k, 0, none⟩ = some (.string nm)
set_option maxRecDepth 100000 in
theorem svName_at {w : World} {nm : ByteArray} {b0 : Nat} :
    Calls Tryz.prog 55 #[.string nm, .pointer (some ⟨b0, 0, none⟩)] w fun e w' => SvName w nm b0 e w' := by
  go_enter Tryz.func55, Tryz.ntmps55
  go_wp2
  go_ret
  exact ⟨ext_alloc w _, _, rfl, Nat.le_refl _, by rw [cell_of_row _ _ _ _ _ _ (heap_alloc_last w _)]; rfl⟩
end Go.Proofs.YtakebdeldndaaaaGreatDoor
/- check.Save. -/
namespace Go.Proofs.YtakebdeldndaaaaGreatDoor
open Go Go.RowKit
set_option linter.unusedSimpArgs false
set_option linter.unusedVariables false
theorem restS_step (q : Int) (b : List UInt8) (k : Nat) (l : Int) (F : Files) (hk : k < 5) : restS q b (5 - k) l F = if (stepS q b k l F).1 = 0 then restS q b (5 - (k + 1)) (stepS q b k l F).2.1 (stepS q b k l F).2.2 else stepS q b k l F := by
  have e : 5 - k = (4 - k) + 1 := by omega
  have e2 : 4 - (4 - k) = k := by omega
  have e3 : 5 - (k + 1) = 4 - k := by omega
  rw [e, e3]
  show andS (stepS q b (4 - (4 - k)) l F) (restS q b (4 - k)) = _
  rw [e2]; rfl
set_option maxRecDepth 100000 in
set_option maxHeartbeats 4000000 in
theorem save_at {w : World} {S : Nat → Prop} {d m : Nat} {q l : Int} {F : Files} (h : DiskIs w S d m q l F) {A : Option Addr} {n c : Nat} {bs : List UInt8} (hnb : n = bs.length) (hn1 : n ≤ 100000000) (hA : RS w (fun k => k = d ∨ k = m) A bs) :
    Calls Tryz.prog 27 #[.pointer (some ⟨d, 0, none⟩), .slice A n c] w fun e w' => SvEnd w S d m q (saveS q bs l F).1 (saveS q bs l F).2.1 (saveS q bs l F).2.2 e w' := by
  have hdl : d < w.heap.size := h.str.lt
  have hml : m < w.heap.size := by obtain ⟨G, hG, -⟩ := h.map; exact hG.lt
  have H := hid h; have Hnb := hid hnb; have HA := hid hA
  clear h hnb hA
  go_enter Tryz.func27, Tryz.ntmps27
  go_wp2_with fail
  have hEa := ext_alloc w (.cells #[.pointer (some ⟨d, 0, none⟩)] 28)
  have hEb := ext_alloc (w.alloc (.cells #[.pointer (some ⟨d, 0, none⟩)] 28)) (.cells #[.slice A n c] 23)
  have c0 : ((w.alloc (.cells #[.pointer (some ⟨d, 0, none⟩)] 28)).alloc (.cells #[.slice A n c] 23)).cell? ⟨w.heap.size, 0, none⟩ = some (.pointer (some ⟨d, 0, none⟩)) := cell_below hEb (by rw [cell_of_row _ _ _ _ _ _ (heap_alloc_last w _)]; rfl)
  have c1 : ((w.alloc (.cells #[.pointer (some ⟨d, 0, none⟩)] 28)).alloc (.cells #[.slice A n c] 23)).cell? ⟨w.heap.size + 1, 0, none⟩ = some (.slice A n c) := by
    have hb := heap_alloc_last (w.alloc (.cells #[.pointer (some ⟨d, 0, none⟩)] 28)) (.cells #[.slice A n c] 23)
    rw [show (w.alloc (.cells #[.pointer (some ⟨d, 0, none⟩)] 28)).heap.size = w.heap.size + 1 by simp] at hb
    rw [cell_of_row _ _ _ _ _ _ hb]; rfl
  have hE2 := Ext.trans' hEa hEb
  clear hEa hEb
  generalize (w.alloc (.cells #[.pointer (some ⟨d, 0, none⟩)] 28)).alloc (.cells #[.slice A n c] 23) = w2 at *
  obtain ⟨b0, hb0⟩ : ∃ b, b = w.heap.size := ⟨_, rfl⟩
  obtain ⟨b1, hb1⟩ : ∃ b, b = w.heap.size + 1 := ⟨_, rfl⟩
  rw [← hb1, ← hb0]
  rw [← hb0] at c0
  rw [← hb1] at c1
  have Hb0 := hid hb0; have Hb1 := hid hb1
  clear hb0 hb1
  refine svName_at.mono ?_
  rintro e w3 ⟨hE3, b2, rfl, hb2, c2⟩
  go_wp2_with fail
  refine svName_at.mono ?_
  rintro e w4 ⟨hE4, b3, rfl, hb3, c3⟩
  have c0 := cell_below hE4 (cell_below hE3 c0)
  have c1 := cell_below hE4 (cell_below hE3 c1)
  have c2 := cell_below hE4 c2
  have hs2 := hE2.size
  have hs3 := hE3.size
  have HE4 := hid (Ext.trans' hE2 (Ext.trans' hE3 hE4))
  have HB := hid (show ∀ W, Kept2 d m w4 W → W.cell? ⟨b0, 0, none⟩ = some (.pointer (some ⟨d, 0, none⟩)) ∧ W.cell? ⟨b1, 0, none⟩ = some (.slice A n c) ∧ W.cell? ⟨b2, 0, none⟩ = some (.string (str nmN)) ∧ W.cell? ⟨b3, 0, none⟩ = some (.string (str nmC)) from fun W hK => by
    have e0 := Hb0.out; have e1 := Hb1.out
    exact ⟨hK.cell' c0 (by show b0 ≠ d; omega) (by show b0 ≠ m; omega), hK.cell' c1 (by show b1 ≠ d; omega) (by show b1 ≠ m; omega),
     hK.cell' c2 (by show b2 ≠ d; omega) (by show b2 ≠ m; omega), hK.cell' c3 (by show b3 ≠ d; omega) (by show b3 ≠ m; omega)⟩)
  clear c0 c1 c2 c3 hdl hml hE2 hE3 hE4 hs2 hs3 Hb0 Hb1 hb2 hb3
  have HD4 := hid (H.out.ext HE4.out)
  have HA4 := hid (RS.kept HA.out (Kept2.of_ext (d := d) (m := m) HE4.out) (.inl rfl) (.inr rfl))
  go_wp2_with fail
  go_loopw [18] (fun i wr => ∃ (k : Nat) (l1 : Int) (F1 : Files), k ≤ 5 ∧ i = .int .i64 (k : Int) ∧ Hid (DiskIs wr S d m q l1 F1) ∧ Hid (Kept2 d m w4 wr) ∧ Hid (saveS q bs l F = restS q bs (5 - k) l1 F1)) (fun i _ => 5 - (intOf i).toNat)
  case atStart => exact ⟨0, l, F, by omega, rfl, HD4, hid (Kept2.refl _ _ _), hid rfl⟩
  case round =>
    obtain ⟨k, l1, F1, hk, rfl, HD, HK, HR⟩ := hrel
    obtain ⟨c0, c1, c2, c3⟩ := HB.out wr HK.out
    by_cases h5 : k = 5
    · subst h5
      have hpost := hid (show SvEnd w S d m q (saveS q bs l F).1 (saveS q bs l F).2.1 (saveS q bs l F).2.2 (.returned (.int .i64 0)) wr from by
        rw [HR.out]
        exact ⟨rfl, HD.out, (Kept2.of_ext HE4.out).trans HK.out⟩)
      go_wp2
      go_ret
      exact hpost.out
    have HA1 := hid (RS.kept HA4.out HK.out (.inl rfl) (.inr rfl))
    have hst := restS_step q bs k l1 F1 (by omega)
    by_cases h0 : k = 0
    · subst h0
      have hcc := svGone_at (nm := nmN) HD.out (by decide) c0 c2
      rw [show stepS q bs 0 l1 F1 = goneS l1 F1 nmN from rfl] at hst
      generalize goneS l1 F1 nmN = r at *
      obtain ⟨x, l2, F2⟩ := r
      dsimp only at hst hcc
      have hix : ∀ w, (Instr.index 107 (.agg #[.func (.func 56) #[] #[.pointer (some ⟨b0, 0, none⟩), .pointer (some ⟨b2, 0, none⟩)], .func (.func 57) #[] #[.pointer (some ⟨b0, 0, none⟩), .pointer (some ⟨b1, 0, none⟩)], .func (.func 58) #[] #[.pointer (some ⟨b0, 0, none⟩)], .func (.func 56) #[] #[.pointer (some ⟨b0, 0, none⟩), .pointer (some ⟨b3, 0, none⟩)], .func (.func 60) #[] #[.pointer (some ⟨b0, 0, none⟩)]]) (.int .i64 0)).run Tryz.prog w = .ok (.func (.func 56) #[] #[.pointer (some ⟨b0, 0, none⟩), .pointer (some ⟨b2, 0, none⟩)]) w := fun w => by kernel_rfl
      go_wp2_with fail
      refine hcc.mono ?_
      clear hcc hix c0 c1 c2 c3
      rintro e w2 ⟨rfl, hD2, hK2⟩
      have HD2 := hid hD2; have HK2 := hid (HK.out.trans hK2)
      clear hD2 hK2
      by_cases hx : x = 0
      · subst hx
        rw [if_pos rfl] at hst
        have HR2 := hid (HR.out.trans hst)
        clear hst
        go_wp2_with fail
        go_roundw
        case rel => exact ⟨0 + 1, l2, F2, by omega, by go_num, HD2, HK2, HR2⟩
        case measure => simp [intOf]
      · rw [if_neg hx] at hst
        have hpost := hid (show SvEnd w S d m q (saveS q bs l F).1 (saveS q bs l F).2.1 (saveS q bs l F).2.2 (.returned (.int .i64 x)) w2 from by
          rw [HR.out, hst]
          exact ⟨rfl, HD2.out, (Kept2.of_ext HE4.out).trans HK2.out⟩)
        have hx1 : (x != 0) = true := by simpa using hx
        clear hst hx
        go_wp2
        go_ret
        exact hpost.out
    by_cases h1 : k = 1
    · subst h1
      have hcc := svAppend_at HD.out Hnb.out hn1 HA1.out c0 c1
      rw [show stepS q bs 1 l1 F1 = (appE q l1 F1 nmN bs, burnL l1, appF q l1 F1 nmN bs) from rfl] at hst
      generalize appE q l1 F1 nmN bs = x at *
      generalize appF q l1 F1 nmN bs = F2 at *
      generalize burnL l1 = l2 at *
      dsimp only at hst hcc
      have hix : ∀ w, (Instr.index 107 (.agg #[.func (.func 56) #[] #[.pointer (some ⟨b0, 0, none⟩), .pointer (some ⟨b2, 0, none⟩)], .func (.func 57) #[] #[.pointer (some ⟨b0, 0, none⟩), .pointer (some ⟨b1, 0, none⟩)], .func (.func 58) #[] #[.pointer (some ⟨b0, 0, none⟩)], .func (.func 56) #[] #[.pointer (some ⟨b0, 0, none⟩), .pointer (some ⟨b3, 0, none⟩)], .func (.func 60) #[] #[.pointer (some ⟨b0, 0, none⟩)]]) (.int .i64 1)).run Tryz.prog w = .ok (.func (.func 57) #[] #[.pointer (some ⟨b0, 0, none⟩), .pointer (some ⟨b1, 0, none⟩)]) w := fun w => by kernel_rfl
      go_wp2_with fail
      refine hcc.mono ?_
      clear hcc hix c0 c1 c2 c3
      rintro e w2 ⟨rfl, hD2, hK2⟩
      have HD2 := hid hD2; have HK2 := hid (HK.out.trans hK2)
      clear hD2 hK2
      by_cases hx : x = 0
      · subst hx
        rw [if_pos rfl] at hst
        have HR2 := hid (HR.out.trans hst)
        clear hst
        go_wp2_with fail
        go_roundw
        case rel => exact ⟨1 + 1, l2, F2, by omega, by go_num, HD2, HK2, HR2⟩
        case measure => simp [intOf]
      · rw [if_neg hx] at hst
        have hpost := hid (show SvEnd w S d m q (saveS q bs l F).1 (saveS q bs l F).2.1 (saveS q bs l F).2.2 (.returned (.int .i64 x)) w2 from by
          rw [HR.out, hst]
          exact ⟨rfl, HD2.out, (Kept2.of_ext HE4.out).trans HK2.out⟩)
        have hx1 : (x != 0) = true := by simpa using hx
        clear hst hx
        go_wp2
        go_ret
        exact hpost.out
    by_cases h2 : k = 2
    · subst h2
      have hcc := svSync_at HD.out c0
      rw [show stepS q bs 2 l1 F1 = (knownEF l1 F1 nmN, burnL l1, syncF l1 F1 nmN) from rfl] at hst
      generalize knownEF l1 F1 nmN = x at *
      generalize syncF l1 F1 nmN = F2 at *
      generalize burnL l1 = l2 at *
      dsimp only at hst hcc
      have hix : ∀ w, (Instr.index 107 (.agg #[.func (.func 56) #[] #[.pointer (some ⟨b0, 0, none⟩), .pointer (some ⟨b2, 0, none⟩)], .func (.func 57) #[] #[.pointer (some ⟨b0, 0, none⟩), .pointer (some ⟨b1, 0, none⟩)], .func (.func 58) #[] #[.pointer (some ⟨b0, 0, none⟩)], .func (.func 56) #[] #[.pointer (some ⟨b0, 0, none⟩), .pointer (some ⟨b3, 0, none⟩)], .func (.func 60) #[] #[.pointer (some ⟨b0, 0, none⟩)]]) (.int .i64 2)).run Tryz.prog w = .ok (.func (.func 58) #[] #[.pointer (some ⟨b0, 0, none⟩)]) w := fun w => by kernel_rfl
      go_wp2_with fail
      refine hcc.mono ?_
      clear hcc hix c0 c1 c2 c3
      rintro e w2 ⟨rfl, hD2, hK2⟩
      have HD2 := hid hD2; have HK2 := hid (HK.out.trans hK2)
      clear hD2 hK2
      by_cases hx : x = 0
      · subst hx
        rw [if_pos rfl] at hst
        have HR2 := hid (HR.out.trans hst)
        clear hst
        go_wp2_with fail
        go_roundw
        case rel => exact ⟨2 + 1, l2, F2, by omega, by go_num, HD2, HK2, HR2⟩
        case measure => simp [intOf]
      · rw [if_neg hx] at hst
        have hpost := hid (show SvEnd w S d m q (saveS q bs l F).1 (saveS q bs l F).2.1 (saveS q bs l F).2.2 (.returned (.int .i64 x)) w2 from by
          rw [HR.out, hst]
          exact ⟨rfl, HD2.out, (Kept2.of_ext HE4.out).trans HK2.out⟩)
        have hx1 : (x != 0) = true := by simpa using hx
        clear hst hx
        go_wp2
        go_ret
        exact hpost.out
    by_cases h3 : k = 3
    · subst h3
      have hcc := svGone_at (nm := nmC) HD.out (by decide) c0 c3
      rw [show stepS q bs 3 l1 F1 = goneS l1 F1 nmC from rfl] at hst
      generalize goneS l1 F1 nmC = r at *
      obtain ⟨x, l2, F2⟩ := r
      dsimp only at hst hcc
      have hix : ∀ w, (Instr.index 107 (.agg #[.func (.func 56) #[] #[.pointer (some ⟨b0, 0, none⟩), .pointer (some ⟨b2, 0, none⟩)], .func (.func 57) #[] #[.pointer (some ⟨b0, 0, none⟩), .pointer (some ⟨b1, 0, none⟩)], .func (.func 58) #[] #[.pointer (some ⟨b0, 0, none⟩)], .func (.func 56) #[] #[.pointer (some ⟨b0, 0, none⟩), .pointer (some ⟨b3, 0, none⟩)], .func (.func 60) #[] #[.pointer (some ⟨b0, 0, none⟩)]]) (.int .i64 3)).run Tryz.prog w = .ok (.func (.func 56) #[] #[.pointer (some ⟨b0, 0, none⟩), .pointer (some ⟨b3, 0, none⟩)]) w := fun w => by kernel_rfl
      go_wp2_with fail
      refine hcc.mono ?_
      clear hcc hix c0 c1 c2 c3
      rintro e w2 ⟨rfl, hD2, hK2⟩
      have HD2 := hid hD2; have HK2 := hid (HK.out.trans hK2)
      clear hD2 hK2
      by_cases hx : x = 0
      · subst hx
        rw [if_pos rfl] at hst
        have HR2 := hid (HR.out.trans hst)
        clear hst
        go_wp2_with fail
        go_roundw
        case rel => exact ⟨3 + 1, l2, F2, by omega, by go_num, HD2, HK2, HR2⟩
        case measure => simp [intOf]
      · rw [if_neg hx] at hst
        have hpost := hid (show SvEnd w S d m q (saveS q bs l F).1 (saveS q bs l F).2.1 (saveS q bs l F).2.2 (.returned (.int .i64 x)) w2 from by
          rw [HR.out, hst]
          exact ⟨rfl, HD2.out, (Kept2.of_ext HE4.out).trans HK2.out⟩)
        have hx1 : (x != 0) = true := by simpa using hx
        clear hst hx
        go_wp2
        go_ret
        exact hpost.out
    have h4 : k = 4 := by omega
    subst h4
    have hcc := svRename_at HD.out c0
    rw [show stepS q bs 4 l1 F1 = (renEF l1 F1 nmN nmC, burnL l1, renF l1 F1 nmN nmC) from rfl] at hst
    generalize renEF l1 F1 nmN nmC = x at *
    generalize renF l1 F1 nmN nmC = F2 at *
    generalize burnL l1 = l2 at *
    dsimp only at hst hcc
    have hix : ∀ w, (Instr.index 107 (.agg #[.func (.func 56) #[] #[.pointer (some ⟨b0, 0, none⟩), .pointer (some ⟨b2, 0, none⟩)], .func (.func 57) #[] #[.pointer (some ⟨b0, 0, none⟩), .pointer (some ⟨b1, 0, none⟩)], .func (.func 58) #[] #[.pointer (some ⟨b0, 0, none⟩)], .func (.func 56) #[] #[.pointer (some ⟨b0, 0, none⟩), .pointer (some ⟨b3, 0, none⟩)], .func (.func 60) #[] #[.pointer (some ⟨b0, 0, none⟩)]]) (.int .i64 4)).run Tryz.prog w = .ok (.func (.func 60) #[] #[.pointer (some ⟨b0, 0, none⟩)]) w := fun w => by kernel_rfl
    go_wp2_with fail
    refine hcc.mono ?_
    clear hcc hix c0 c1 c2 c3
    rintro e w2 ⟨rfl, hD2, hK2⟩
    have HD2 := hid hD2; have HK2 := hid (HK.out.trans hK2)
    clear hD2 hK2
    by_cases hx : x = 0
    · subst hx
      rw [if_pos rfl] at hst
      have HR2 := hid (HR.out.trans hst)
      clear hst
      go_wp2_with fail
      go_roundw
      case rel => exact ⟨4 + 1, l2, F2, by omega, by go_num, HD2, HK2, HR2⟩
      case measure => simp [intOf]
    · rw [if_neg hx] at hst
      have hpost := hid (show SvEnd w S d m q (saveS q bs l F).1 (saveS q bs l F).2.1 (saveS q bs l F).2.2 (.returned (.int .i64 x)) w2 from by
        rw [HR.out, hst]
        exact ⟨rfl, HD2.out, (Kept2.of_ext HE4.out).trans HK2.out⟩)
      have hx1 : (x != 0) = true := by simpa using hx
      clear hst hx
      go_wp2
      go_ret
      exact hpost.out
end Go.Proofs.YtakebdeldndaaaaGreatDoor
/- How long a checkpoint may be, sharply. Plain. -/
namespace Go.Proofs.YtakebdeldndaaaaGreatDoor
open Go
set_option linter.unusedVariables false
set_option linter.unusedSimpArgs false
/-! ### States -/
end Go.Proofs.YtakebdeldndaaaaGreatDoor
/- check.Load from any disk. -/
namespace Go.Proofs.YtakebdeldndaaaaGreatDoor
open Go Go.RowKit
set_option linter.unusedSimpArgs false
set_option linter.unusedVariables false
def tryO (ds : List DefV) (F : Files) (nm : List UInt8) (most : Int) : Option (Int × List Ents) := match atF F nm with
  | none => none
  | some f => match takeO ds f.b with
    | none => none
    | some r => if r.1 ≤ most then some r else none
def loadR (ds : List DefV) (F : Files) (most : Int) : Int × List (DefV × Ents) := match tryO ds F nmC most with
  | some r => (r.1, ds.zip r.2)
  | none => match tryO ds F nmN most with
    | some r => (r.1, ds.zip r.2)
    | none => (0, ds.map fun d => (d, []))
theorem One.down {n n0 : Nat} {w : World} {S : Nat → Prop} {p : Nat} {L : List Pc} (h : One n0 w S p L) (hn : n ≤ n0) : One n w S p L := ⟨h.A, h.lt, fun k hk => Nat.le_trans hn (h.lo k hk)⟩
theorem DiskIs.len {w : World} {S : Nat → Prop} {d m : Nat} {q l : Int} {F : Files} (h : DiskIs w S d m q l F) {nm : List UInt8} {f : File} (hf : atF F nm = some f) : f.b.length ≤ 65536 ∧ f.safe ≤ f.b.length := by
  obtain ⟨G, hG, hH⟩ := h.map
  rcases hH.at_ nm with ⟨e1, e2⟩ | ⟨g, v, e1, e2, A, c, rfl, hc, hcm, hs, hb, hr⟩
  · rw [e1] at hf; cases hf
  · rw [e1] at hf
    simp only [Option.some.injEq] at hf
    subst hf
    exact ⟨hb, hs⟩
structure CkLoadIs (w : World) (ds : List DefV) (F : Files) (most : Int) (e : Ending) (w' : World) : Prop where
  ext : Ext w w'
  ans : (defsE ds ≠ 0 ∧ e = .returned (.tuple #[.int .i64 0, .pointer none, .int .i64 (defsE ds)])) ∨
    (defsE ds = 0 ∧ ∃ x p L S, e = .returned (.tuple #[.int .i64 x, .pointer (some ⟨p, 0, none⟩), .int .i64 0]) ∧ (x, viewP L) = loadR ds F most ∧ One w.heap.size w' S p L ∧ Hi w.heap.size w' p L)
set_option maxRecDepth 100000 in
set_option maxHeartbeats 4000000 in
theorem ckLoad_at {w : World} {S : Nat → Prop} {d m : Nat} {q l : Int} {F : Files} (h : DiskIs w S d m q l F) {A : Option Addr} {n c : Nat} {ds : List DefV} (hx : SlR RDef w (· < w.heap.size) A n c ds) (most : Int) :
    Calls Tryz.prog 14 #[.pointer (some ⟨d, 0, none⟩), .slice A n c, .int .i64 most] w fun e w' => CkLoadIs w ds F most e w' := by
  have HD := hid h; have HX := hid hx
  clear h hx
  go_enter Tryz.func14, Tryz.ntmps14
  go_wp2_with fail
  go_loopw [19] (fun i wr => ∃ k : Nat, k ≤ 2 ∧ i = .int .i64 (k : Int) ∧ Hid (Ext w wr) ∧ Hid ((1 ≤ k → defsE ds = 0 → tryO ds F nmC most = none) ∧ (2 ≤ k → defsE ds = 0 → tryO ds F nmN most = none))) (fun i _ => 2 - (intOf i).toNat)
  case atStart => exact ⟨0, by omega, rfl, hid (Below.refl _ _), hid ⟨fun h => by omega, fun h => by omega⟩⟩
  case round =>
    obtain ⟨k, hk, rfl, HE, HN⟩ := hrel
    by_cases h2 : k = 2
    · subst h2
      have hnew := projNew2_at (HX.out.grow HE.out)
      have hwn := HE.out.size
      go_wp2_with fail
      refine hnew.mono ?_
      clear hnew
      rintro e w2 ⟨hE2, hans⟩
      rcases hans with ⟨h0, rfl⟩ | ⟨h0, p, L, S, rfl, hS, hv, hR, hSl, hb⟩
      · have hpost := hid (show CkLoadIs w ds F most (.returned (.tuple #[.int .i64 0, .pointer none, .int .i64 (defsE ds)])) w2 from ⟨HE.out.trans' hE2, .inl ⟨h0, rfl⟩⟩)
        generalize defsE ds = me at *
        clear h0 hE2
        go_wp2
        go_ret3
        exact hpost.out
      have hpost := hid (show CkLoadIs w ds F most (.returned (.tuple #[.int .i64 0, .pointer (some ⟨p, 0, none⟩), .int .i64 0])) w2 from ⟨HE.out.trans' hE2, .inr ⟨h0, 0, p, L, _, rfl, by
          unfold loadR
          rw [HN.out.1 (by omega) h0, HN.out.2 (by omega) h0, hv], One.down (one_new hS hb) hwn, Hi.down ⟨⟨S, hS, hSl⟩, hR, fun k hk => (hb k hk).1⟩ hwn⟩⟩)
      clear hS hv hE2 h0 hR hSl hb hwn
      go_wp2
      go_ret3
      exact hpost.out
    · by_cases h1 : k = 0
      · subst h1
        have hcc := readF_at (HD.out.ext HE.out) nmC (by decide)
        have hix : ∀ w, (Instr.index 90 (.agg #[.string { data := #[99, 104, 101, 99, 107] }, .string { data := #[99, 104, 101, 99, 107, 95, 110, 101, 119] }]) (.int .i64 0)).run Tryz.prog w = .ok (.string { data := #[99, 104, 101, 99, 107] }) w := fun w => by kernel_rfl
        go_wp2_with fail
        refine hcc.mono ?_
        clear hcc hix
        rintro e w2 ⟨v, rfl, hO, hE2⟩
        unfold readE
        unfold readB at hO
        cases hat : atF F nmC with
        | none =>
          have HN2 := hid (show (1 ≤ 0 + 1 → defsE ds = 0 → tryO ds F nmC most = none) ∧ (2 ≤ 0 + 1 → defsE ds = 0 → tryO ds F nmN most = none) from by
            have ht : tryO ds F nmC most = none := by unfold tryO; rw [hat]
            exact ⟨fun _ _ => ht, fun h => by omega⟩)
          have HE2 := hid (HE.out.trans' hE2)
          clear hO hat hE2
          go_wp2_with fail
          go_roundw
          case rel => exact ⟨0 + 1, by omega, by go_num, HE2, HN2⟩
          case measure => simp [intOf]
        | some f =>
          rw [hat] at hO
          have hO : OB w2 wr.heap.size v f.b := hO
          have hlen := (HD.out.len hat).1
          obtain ⟨Ab, nb, cb, rfl, hnb, hcb, hRb⟩ := OB.rd hO
          have HE2 := hid (HE.out.trans' hE2)
          have hcc := ckTake2_at (HX.out.grow HE2.out) hnb hcb hRb (by omega)
          have Hat := hid hat
          have hwn := HE2.out.size
          clear hO hat hE2 hnb hlen hRb
          go_wp2_with fail
          refine hcc.mono ?_
          clear hcc
          rintro e w3 ⟨hE3, hans⟩
          have HE2 := hid (HE2.out.trans' hE3)
          clear hE3
          rcases hans with ⟨h0, rfl⟩ | ⟨h0, htk, rfl⟩ | ⟨h0, last, Es, p, L, S, htk, rfl, hOn, hv, hHi⟩
          · have HN2 := hid (show (1 ≤ 0 + 1 → defsE ds = 0 → tryO ds F nmC most = none) ∧ (2 ≤ 0 + 1 → defsE ds = 0 → tryO ds F nmN most = none) from
              ⟨fun _ h => absurd h h0, fun _ h => absurd h h0⟩)
            obtain ⟨me, hme⟩ : ∃ me, me = defsE ds := ⟨_, rfl⟩
            have hx2 : (me == 0) = false := by rw [hme]; simpa using h0
            rw [← hme]
            clear h0 hme
            go_wp2_with fail
            go_roundw
            case rel => exact ⟨0 + 1, by omega, by go_num, HE2, HN2⟩
            case measure => simp [intOf]
          · have HN2 := hid (show (1 ≤ 0 + 1 → defsE ds = 0 → tryO ds F nmC most = none) ∧ (2 ≤ 0 + 1 → defsE ds = 0 → tryO ds F nmN most = none) from by
              have ht : tryO ds F nmC most = none := by unfold tryO; rw [Hat.out]; dsimp only; rw [htk]
              exact ⟨fun _ _ => ht, fun h => by omega⟩)
            clear htk h0
            go_wp2_with fail
            go_roundw
            case rel => exact ⟨0 + 1, by omega, by go_num, HE2, HN2⟩
            case measure => simp [intOf]
          · by_cases hm : last ≤ most
            · have ht : tryO ds F nmC most = some (last, Es) := by unfold tryO; rw [Hat.out]; dsimp only; rw [htk]; exact if_pos hm
              have hpost := hid (show CkLoadIs w ds F most (.returned (.tuple #[.int .i64 last, .pointer (some ⟨p, 0, none⟩), .int .i64 0])) w3 from
                ⟨HE2.out, .inr ⟨h0, last, p, L, S, rfl, by
                  unfold loadR
                  first
                  | (rw [ht, hv]; done)
                  | (rw [HN.out.1 (by omega) h0, ht, hv]), hOn.down hwn, hHi.down hwn⟩⟩)
              clear h0 ht htk hOn hv hHi hwn
              go_wp2
              go_ret3
              exact hpost.out
            · have HN2 := hid (show (1 ≤ 0 + 1 → defsE ds = 0 → tryO ds F nmC most = none) ∧ (2 ≤ 0 + 1 → defsE ds = 0 → tryO ds F nmN most = none) from by
                have ht : tryO ds F nmC most = none := by unfold tryO; rw [Hat.out]; dsimp only; rw [htk]; exact if_neg hm
                exact ⟨fun _ _ => ht, fun h => by omega⟩)
              clear h0 htk hOn hv hHi hwn
              go_wp2_with fail
              go_roundw
              case rel => exact ⟨0 + 1, by omega, by go_num, HE2, HN2⟩
              case measure => simp [intOf]
      · obtain rfl : k = 1 := by omega
        have hcc := readF_at (HD.out.ext HE.out) nmN (by decide)
        have hix : ∀ w, (Instr.index 90 (.agg #[.string { data := #[99, 104, 101, 99, 107] }, .string { data := #[99, 104, 101, 99, 107, 95, 110, 101, 119] }]) (.int .i64 1)).run Tryz.prog w = .ok (.string { data := #[99, 104, 101, 99, 107, 95, 110, 101, 119] }) w := fun w => by kernel_rfl
        go_wp2_with fail
        refine hcc.mono ?_
        clear hcc hix
        rintro e w2 ⟨v, rfl, hO, hE2⟩
        unfold readE
        unfold readB at hO
        cases hat : atF F nmN with
        | none =>
          have HN2 := hid (show (1 ≤ 1 + 1 → defsE ds = 0 → tryO ds F nmC most = none) ∧ (2 ≤ 1 + 1 → defsE ds = 0 → tryO ds F nmN most = none) from by
            have ht : tryO ds F nmN most = none := by unfold tryO; rw [hat]
            exact ⟨fun _ h0 => HN.out.1 (by omega) h0, fun _ _ => ht⟩)
          have HE2 := hid (HE.out.trans' hE2)
          clear hO hat hE2
          go_wp2_with fail
          go_roundw
          case rel => exact ⟨1 + 1, by omega, by go_num, HE2, HN2⟩
          case measure => simp [intOf]
        | some f =>
          rw [hat] at hO
          have hO : OB w2 wr.heap.size v f.b := hO
          have hlen := (HD.out.len hat).1
          obtain ⟨Ab, nb, cb, rfl, hnb, hcb, hRb⟩ := OB.rd hO
          have HE2 := hid (HE.out.trans' hE2)
          have hcc := ckTake2_at (HX.out.grow HE2.out) hnb hcb hRb (by omega)
          have Hat := hid hat
          have hwn := HE2.out.size
          clear hO hat hE2 hnb hlen hRb
          go_wp2_with fail
          refine hcc.mono ?_
          clear hcc
          rintro e w3 ⟨hE3, hans⟩
          have HE2 := hid (HE2.out.trans' hE3)
          clear hE3
          rcases hans with ⟨h0, rfl⟩ | ⟨h0, htk, rfl⟩ | ⟨h0, last, Es, p, L, S, htk, rfl, hOn, hv, hHi⟩
          · have HN2 := hid (show (1 ≤ 1 + 1 → defsE ds = 0 → tryO ds F nmC most = none) ∧ (2 ≤ 1 + 1 → defsE ds = 0 → tryO ds F nmN most = none) from
              ⟨fun _ h => absurd h h0, fun _ h => absurd h h0⟩)
            obtain ⟨me, hme⟩ : ∃ me, me = defsE ds := ⟨_, rfl⟩
            have hx2 : (me == 0) = false := by rw [hme]; simpa using h0
            rw [← hme]
            clear h0 hme
            go_wp2_with fail
            go_roundw
            case rel => exact ⟨1 + 1, by omega, by go_num, HE2, HN2⟩
            case measure => simp [intOf]
          · have HN2 := hid (show (1 ≤ 1 + 1 → defsE ds = 0 → tryO ds F nmC most = none) ∧ (2 ≤ 1 + 1 → defsE ds = 0 → tryO ds F nmN most = none) from by
              have ht : tryO ds F nmN most = none := by unfold tryO; rw [Hat.out]; dsimp only; rw [htk]
              exact ⟨fun _ h0 => HN.out.1 (by omega) h0, fun _ _ => ht⟩)
            clear htk h0
            go_wp2_with fail
            go_roundw
            case rel => exact ⟨1 + 1, by omega, by go_num, HE2, HN2⟩
            case measure => simp [intOf]
          · by_cases hm : last ≤ most
            · have ht : tryO ds F nmN most = some (last, Es) := by unfold tryO; rw [Hat.out]; dsimp only; rw [htk]; exact if_pos hm
              have hpost := hid (show CkLoadIs w ds F most (.returned (.tuple #[.int .i64 last, .pointer (some ⟨p, 0, none⟩), .int .i64 0])) w3 from
                ⟨HE2.out, .inr ⟨h0, last, p, L, S, rfl, by
                  unfold loadR
                  first
                  | (rw [ht, hv]; done)
                  | (rw [HN.out.1 (by omega) h0, ht, hv]), hOn.down hwn, hHi.down hwn⟩⟩)
              clear h0 ht htk hOn hv hHi hwn
              go_wp2
              go_ret3
              exact hpost.out
            · have HN2 := hid (show (1 ≤ 1 + 1 → defsE ds = 0 → tryO ds F nmC most = none) ∧ (2 ≤ 1 + 1 → defsE ds = 0 → tryO ds F nmN most = none) from by
                have ht : tryO ds F nmN most = none := by unfold tryO; rw [Hat.out]; dsimp only; rw [htk]; exact if_neg hm
                exact ⟨fun _ h0 => HN.out.1 (by omega) h0, fun _ _ => ht⟩)
              clear h0 htk hOn hv hHi hwn
              go_wp2_with fail
              go_roundw
              case rel => exact ⟨1 + 1, by omega, by go_num, HE2, HN2⟩
              case measure => simp [intOf]
end Go.Proofs.YtakebdeldndaaaaGreatDoor
/- Saves on a disk that has at most a checkpoint. Plain. -/
namespace Go.Proofs.YtakebdeldndaaaaGreatDoor
open Go Go.RowKit
set_option linter.unusedSimpArgs false
set_option linter.unusedVariables false
theorem may_nmC : mayB nmC = true := by decide
theorem may_nmN : mayB nmN = true := by decide
theorem at_C_N (f : File) : atF [(nmC, f)] nmN = none := by simp [atF, nmC, nmN]
theorem put_two (f g h : File) : putF nmN h [(nmC, f)] = [(nmC, f), (nmN, h)] ∧ putF nmN h [(nmC, f), (nmN, g)] = [(nmC, f), (nmN, h)] := by
  constructor <;> (simp [putF, delF, insF, nmC, nmN]; decide)
theorem app_two {q : Int} {f : File} {bs : List UInt8} (h1 : bs.length ≤ 65536) (h2 : ((f.b.length + bs.length : Nat) : Int) ≤ q) :
    appE q (-1) [(nmC, f)] nmN bs = 0 ∧ appF q (-1) [(nmC, f)] nmN bs = [(nmC, f), (nmN, ⟨bs, 0⟩)] := by
  have e : appE q (-1) [(nmC, f)] nmN bs = 0 := by
    unfold appE oldF
    rw [at_C_N]
    simp only [Option.getD_none, List.length_nil]
    rw [if_neg (by decide), if_neg (by rw [may_nmN]; decide), if_neg (by rintro (h | h); omega; have := h.2; simp at this), if_neg (by simp [usedF]; omega)]
  refine ⟨e, ?_⟩
  unfold appF oldF
  rw [if_pos e, at_C_N, (put_two f f _).1]; rfl
end Go.Proofs.YtakebdeldndaaaaGreatDoor
/- The walk of disk.List. -/
namespace Go.Proofs.YtakebdeldndaaaaGreatDoor
open Go Go.RowKit
set_option linter.unusedSimpArgs false
set_option linter.unusedVariables false
theorem strKeys_raw (G : Raw) : strKeys (DataW.map (rawL G)) = G.map (·.1) := by
  show (G.map fun p => (Lit.string p.1, DataW.held p.2)).map (fun p => strOf p.1) = _
  rw [List.map_map]; rfl
theorem rows_str {w : World} {K : Nat → Prop} : ∀ (l : List (List UInt8)), Rows Rep.str w K l (l.map strV)
  | [] => rfl
  | x :: l => ⟨[strV x], l.map strV, rfl, rfl, rows_str l⟩
theorem own_strs {w : World} {base : Nat} {v : Value} {l : List (List UInt8)} (h : w.ownsRow base 9 1 v l.length (l.map strV)) : OwnR Rep.str 9 w base v l := ⟨_, h, rows_str l⟩
set_option maxRecDepth 100000 in
set_option maxHeartbeats 2000000 in
theorem list_at {w : World} {S : Nat → Prop} {d m : Nat} {q l : Int} {F : Files} (h : DiskIs w S d m q l F) :
    Calls Tryz.prog 22 #[.pointer (some ⟨d, 0, none⟩)] w fun e w' => ∃ v, e = .returned v ∧ OwnR Rep.str 9 w' w.heap.size v (F.map (·.1)) ∧ Ext w w' := by
  have c2 := h.str.files
  obtain ⟨G, hG, hH⟩ := h.map
  have hlen := hH.length
  have hfew := h.few
  have HG := hid hG
  have Hnm := hid hH.names
  have Hup := hid h.up
  have hsz : Maps.size (DataW.map (rawL G)) ≤ maxLen := by
    show (rawL G).length ≤ maxLen
    rw [rawL_length, hlen]; simp only [maxLen]; omega
  have hsz2 : Maps.size (DataW.map (rawL G)) * 16 ≤ 140737488355328 := by
    show (rawL G).length * 16 ≤ _
    rw [rawL_length, hlen]; omega
  have hk := fun w => (callsIn_wide).1 (Tryz.maps_Keys_51 (some m) w)
  have hs := callsIn_wide.1 (Tryz.slices_Sorted_keys_50_51 m G.length (DataW.map (rawL G)) rawE w hG hsz hsz2)
  clear h hG hH hlen hfew hsz hsz2
  go_enter Tryz.func22, Tryz.ntmps22
  go_wp2_with fail
  refine (hk _).mono ?_
  rintro e w1 ⟨rfl, rfl⟩
  clear hk
  go_wp2_with fail
  refine hs.mono ?_
  rintro e w2 ⟨v, ss, rfl, hp, hr, -, hB⟩
  rw [strKeys_raw, Hnm.out] at hp
  rw [sort_names hp (by have := Hup.out; unfold Up at this; rw [List.pairwise_map]; exact this), hp.length_eq] at hr
  have HO := hid (own_strs hr)
  have HB := hid hB
  clear hs hp hr hB
  go_wp2
  go_ret
  have hE : Ext w (w.alloc (.cells #[.map (some m)] 74)) := (Below.refl _ _).alloc (Nat.le_refl _) _
  exact ⟨_, rfl, HO.out.base' hE.size, Ext.trans' hE HB.out⟩
end Go.Proofs.YtakebdeldndaaaaGreatDoor
