/- The walk of DiskNames. -/
import Derived.Test.YtpipmkaljkhgiaaDoorDiskRoom
import Derived.Test.YtpipmkaljkhgiaaDoorDiskList
namespace Go.Proofs.YtpipmkaljkhgiaaDoor
open Go Go.RowKit
set_option linter.unusedSimpArgs false
set_option linter.unusedVariables false

def nC : List UInt8 := [99]
def nD : List UInt8 := [100]
theorem Run.list {w0 w : World} {S : Nat → Prop} {d m : Nat} {q l : Int} {F : Files} (h : Run w0 w S d m q l F) :
    Calls Tryd.prog 26 #[.pointer (some ⟨d, 0, none⟩)] w fun e w' => ∃ v, e = .returned v ∧ OwnR Rep.str 9 w' w.heap.size v (F.map (·.1)) ∧ Ext w w' ∧ Run w0 w' S d m q l F :=
  (list_at h.is).mono fun _ _ ⟨v, he, h1, h2⟩ => ⟨v, he, h1, h2, h.ext h2⟩
theorem app_two {q : Int} {f : File} {bs : List UInt8} (h1 : f.b.length ≤ 65536) (h2 : bs.length ≤ 65536) (h3 : ((f.b.length + bs.length : Nat) : Int) ≤ q) :
    appE q (-1) [(nA, f)] nB bs = 0 ∧ appF q (-1) [(nA, f)] nB bs = [(nA, f), (nB, ⟨bs, 0⟩)] := by
  have ho : oldF [(nA, f)] nB = ⟨[], 0⟩ := rfl
  have e : appE q (-1) [(nA, f)] nB bs = 0 := by
    unfold appE
    rw [if_neg (by decide), if_neg (by rw [may_nB]; decide), if_neg (by rw [ho]; rintro (h | h); (· simp at h; omega); (· exact absurd h.2 (by simp))), if_neg (by simp [usedF]; omega)]
  refine ⟨e, ?_⟩
  unfold appF
  rw [e, if_pos rfl, ho, List.nil_append, putF_two]
theorem ren_there (f g : File) : renEF (-1) [(nA, f), (nB, g)] nA nB = 12 ∧ renF (-1) [(nA, f), (nB, g)] nA nB = [(nA, f), (nB, g)] := by
  have e : renEF (-1) [(nA, f), (nB, g)] nA nB = 12 := rfl
  exact ⟨e, rfl⟩
theorem ren_new (f g : File) : renEF (-1) [(nA, f), (nB, g)] nA nC = 0 ∧ renF (-1) [(nA, f), (nB, g)] nA nC = [(nB, g), (nC, f)] := by
  have e : renEF (-1) [(nA, f), (nB, g)] nA nC = 0 := rfl
  exact ⟨e, rfl⟩
theorem ren_none (f g : File) : renEF (-1) [(nB, g), (nC, f)] nA nD = 11 ∧ renF (-1) [(nB, g), (nC, f)] nA nD = [(nB, g), (nC, f)] := ⟨rfl, rfl⟩
set_option maxRecDepth 100000 in
set_option maxHeartbeats 4000000 in
theorem diskNames_in (A0 : Option Addr) (n0 c0 : Nat) (x : List UInt8) (A1 : Option Addr) (n1 c1 : Nat) (y : List UInt8) (w : World) (h0 : InB w A0 n0 c0 x) (h1 : InB w A1 n1 c1 y) :
    Calls Tryd.prog 7 #[.slice A0 n0 c0, .slice A1 n1 c1] w fun e w' => e = .returned (.bool true) ∧ Ext w w' := by
  have hstr : (⟨#[97]⟩ : ByteArray) = str nA := rfl
  have hstr2 : (⟨#[98]⟩ : ByteArray) = str nB := rfl
  have hstr3 : (⟨#[99]⟩ : ByteArray) = str nC := rfl
  have hstr4 : (⟨#[100]⟩ : ByteArray) = str nD := rfl
  obtain ⟨hX, hXc, hXr⟩ := h0.short
  obtain ⟨hY, hYc, hYr⟩ := h1.short
  have hc0 := h0.cap
  have hc1 := h1.cap
  have hs0 := fun w => short_at A0 n0 c0 w hc0
  have hs1 := fun w => short_at A1 n1 c1 w hc1
  clear h0 h1
  obtain ⟨N, hN⟩ : ∃ N, N = min n0 200 := ⟨_, rfl⟩
  obtain ⟨M, hM⟩ : ∃ M, M = min n1 200 := ⟨_, rfl⟩
  have hN200 : N ≤ 200 := by omega
  have hM200 : M ≤ 200 := by omega
  rw [← hN] at hX hXc hs0
  rw [← hM] at hY hYc hs1
  generalize x.take 200 = X at hX hXr
  generalize y.take 200 = Y at hY hYr
  have HX := hid hX; have HY := hid hY; have HXr := hid hXr; have HYr := hid hYr
  clear hX hY hXr hYr hN hM hc0 hc1
  go_enter Tryd.func7, Tryd.ntmps7
  go_wp2_with fail
  refine (shown_at _).mono ?_
  rintro e w1 ⟨rfl, hE⟩
  have HE1 := hid hE; clear hE
  go_wp2_with fail
  refine (run_new HE1.out 4000).mono ?_
  rintro e w2 ⟨d, m, rfl, hR⟩
  rw [show max (4000 : Int) 0 = 4000 by decide] at hR
  have HR := hid hR; clear hR HE1
  go_wp2_with fail
  refine (hs0 _).mono ?_
  rintro e w' ⟨rfl, rfl⟩
  go_wp2_with fail
  refine (hs1 _).mono ?_
  rintro e w' ⟨rfl, rfl⟩
  clear hs0 hs1
  go_wp2_with fail
  have e1 := app_none (q := 4000) (nm := nA) (bs := X) may_nA (by have := HX.out; omega) (by have := HX.out; omega)
  refine (HR.out.append nA (by decide) A0 N c0 X HX.out (by omega) (HR.out.arg HXr.out)).mono ?_
  rintro e w3 ⟨rfl, hR, -⟩
  rw [e1.2, burn_none] at hR
  have HR3 := hid hR; clear hR HR e1
  go_wp2_with fail
  have e1 := app_two (q := 4000) (f := ⟨X, 0⟩) (bs := Y) (by have := HX.out; show X.length ≤ _; omega) (by have := HY.out; omega) (by have := HX.out; have := HY.out; show ((X.length + Y.length : Nat) : Int) ≤ _; omega)
  refine (HR3.out.append nB (by decide) A1 M c1 Y HY.out (by omega) (HR3.out.arg HYr.out)).mono ?_
  rintro e w4 ⟨rfl, hR, -⟩
  rw [e1.2, burn_none] at hR
  have HR4 := hid hR; clear hR HR3 e1
  go_wp2_with fail
  refine (HR4.out.rename nA nB (by decide) (by decide)).mono ?_
  rintro e w5 ⟨rfl, hR, -⟩
  rw [burn_none, (ren_there _ _).2] at hR
  rw [(ren_there _ _).1]
  have HR5 := hid hR; clear hR HR4
  go_wp2_with fail
  refine (HR5.out.rename nA nC (by decide) (by decide)).mono ?_
  rintro e w6 ⟨rfl, hR, -⟩
  rw [burn_none, (ren_new _ _).2] at hR
  rw [(ren_new _ _).1]
  have HR6 := hid hR; clear hR HR5
  go_wp2_with fail
  refine (HR6.out.rename nA nD (by decide) (by decide)).mono ?_
  rintro e w7 ⟨rfl, hR, -⟩
  rw [burn_none, (ren_none _ _).2] at hR
  rw [(ren_none _ _).1]
  have HR7 := hid hR; clear hR HR6
  go_wp2_with fail
  refine (HR7.out.read nC (by decide)).mono ?_
  rintro e w8 ⟨v, rfl, hO, hE, hR⟩
  rw [show readE [(nB, ⟨Y, 0⟩), (nC, ⟨X, 0⟩)] nC = 0 from rfl]
  rw [show readB [(nB, ⟨Y, 0⟩), (nC, ⟨X, 0⟩)] nC = X from rfl] at hO
  obtain ⟨A2, c2, rfl, -, hr2⟩ := OB.read hO
  rw [← HX.out]
  have Hr2 := hid hr2
  have HR8 := hid hR; clear hR HR7 hO hE hr2
  go_wp2_with fail
  refine (HR8.out.read nB (by decide)).mono ?_
  rintro e w9 ⟨v, rfl, hO, hE, hR⟩
  rw [show readE [(nB, ⟨Y, 0⟩), (nC, ⟨X, 0⟩)] nB = 0 from rfl]
  rw [show readB [(nB, ⟨Y, 0⟩), (nC, ⟨X, 0⟩)] nB = Y from rfl] at hO
  obtain ⟨A3, c3, rfl, -, hr3⟩ := OB.read hO
  rw [← HY.out]
  have Hr3 := hid hr3
  have Hr29 := hid (Hr2.out.below hE)
  have HR9 := hid hR; clear hR HR8 hO hE hr3 Hr2
  go_wp2_with fail
  refine (HR9.out.read nA (by decide)).mono ?_
  rintro e w10 ⟨v, rfl, hO, hE, hR⟩
  rw [show readE [(nB, ⟨Y, 0⟩), (nC, ⟨X, 0⟩)] nA = 11 from rfl]
  have hs2 := run_str (Hr29.out.below hE) c2
  have hs3 := run_str (Hr3.out.below hE) c3
  have hs0 := run_str (hR.arg_rb HXr.out) c0
  have hs1 := run_str (hR.arg_rb HYr.out) c1
  have e3 := str_toList X
  have e4 := str_toList Y
  rw [← HX.out] at hs2 hs0
  rw [← HY.out] at hs3 hs1
  have HR10 := hid hR; clear hR HR9 hO hE Hr29 Hr3
  go_wp2_with fail
  refine HR10.out.used.mono ?_
  rintro e w11 ⟨rfl, -, hR⟩
  have hu : ((usedF [(nB, ⟨Y, 0⟩), (nC, ⟨X, 0⟩)] : Nat) : Int) = (N : Int) + (M : Int) := by
    have := HX.out; have := HY.out; simp [usedF]; omega
  rw [hu]
  have HR11 := hid hR
  clear hR HR10 hs0 hs1 hs2 hs3 hu
  go_wp2_with fail
  refine HR11.out.list.mono ?_
  rintro e w12 ⟨v, rfl, hO, -, hR⟩
  obtain ⟨A5, c5, rfl, -⟩ := OwnR.read hO
  have HR12 := hid hR
  clear hR HR11 hO
  go_wp2
  go_ret
  exact ⟨rfl, HR12.out.below⟩
end Go.Proofs.YtpipmkaljkhgiaaDoor
