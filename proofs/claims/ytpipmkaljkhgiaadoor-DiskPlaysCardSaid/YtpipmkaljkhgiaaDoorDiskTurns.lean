/- The walk of DiskTurns. -/
import Derived.Test.YtpipmkaljkhgiaaDoorDiskCuts
namespace Go.Proofs.YtpipmkaljkhgiaaDoor
open Go Go.RowKit
set_option linter.unusedSimpArgs false
set_option linter.unusedVariables false

theorem Run.other {w0 w w' : World} {S : Nat → Prop} {d m d' m' : Nat} {q l q' l' : Int} {F F' : Files} (h : Run w0 w S d' m' q' l' F') (h0 : Run w0 w S d m q l F) (hk : Kept2 d m w w') (h1 : d' ≠ d) (h2 : d' ≠ m) (h3 : m' ≠ d) (h4 : m' ≠ m) : Run w0 w' S d' m' q' l' F' :=
  ⟨h.is.kept hk h0.is.own h0.is.ownM h1 h2 h3 h4, h.below.trans (hk.below h0.dl h0.ml h.below.size), h.dl, h.ml, h.old⟩
theorem DiskIs.lt {w : World} {S : Nat → Prop} {d m : Nat} {q l : Int} {F : Files} (h : DiskIs w S d m q l F) : d < w.heap.size ∧ m < w.heap.size := by
  obtain ⟨G, hG, -⟩ := h.map
  exact ⟨h.str.lt, hG.lt⟩
theorem Run.clone {w0 w : World} {S : Nat → Prop} {d m : Nat} {q l : Int} {F : Files} (h : Run w0 w S d m q l F) :
    Calls Tryd.prog 20 #[.pointer (some ⟨d, 0, none⟩)] w fun e w' => ∃ d' m', e = .returned (.pointer (some ⟨d', 0, none⟩)) ∧
      Run w0 w' (fun k => S k ∨ k = d' ∨ k = m') d m q l F ∧ Run w0 w' (fun k => S k ∨ k = d' ∨ k = m') d' m' q l F ∧ Ext w w' ∧ d' ≠ d ∧ d' ≠ m ∧ m' ≠ d ∧ m' ≠ m := by
  obtain ⟨hd, hm⟩ := h.is.lt
  refine (clone_at h.is).mono ?_
  rintro e w' ⟨d', m', he, h1, h2, h3, h4, h5⟩
  have hs := h.below.size
  have ho : ∀ k, (S k ∨ k = d' ∨ k = m') → w0.heap.size ≤ k := fun k hk => by
    rcases hk with hk | rfl | rfl
    · exact h.old k hk
    · omega
    · omega
  exact ⟨d', m', he, ⟨h4, below_then h.below hs h5, h.dl, h.ml, ho⟩, ⟨h3, below_then h.below hs h5, by omega, by omega, ho⟩, h5, by omega, by omega, by omega, by omega⟩
theorem turn_one (nm : List UInt8) (f : File) (t : Int) : turnEF [(nm, f)] nm t = (if t < 0 ∨ (f.b.length : Int) ≤ t then 1 else 0) ∧ turnF [(nm, f)] nm t = (if t < 0 ∨ (f.b.length : Int) ≤ t then [(nm, f)] else [(nm, ⟨turnB f.b t.toNat, f.safe⟩)]) := by
  unfold turnEF turnF
  rw [atF_one]
  exact ⟨rfl, by simp only [putF_one]⟩
theorem xor_twice (b : UInt8) : b ^^^ 1 ^^^ 1 = b := by
  rw [UInt8.xor_assoc, UInt8.xor_self, UInt8.xor_zero]
theorem turnB_length (b : List UInt8) (k : Nat) : (turnB b k).length = b.length := by unfold turnB; rw [List.length_set]
theorem turnB_get (b : List UInt8) (k i : Nat) (hi : i < b.length) : (turnB b k)[i]'(by rw [turnB_length]; exact hi) = if i = k then b[i] ^^^ 1 else b[i] := by
  unfold turnB
  rw [List.getElem_set]
  by_cases h : k = i
  · subst h
    rw [if_pos rfl, if_pos rfl, List.getD_eq_getElem?_getD, List.getElem?_eq_getElem hi]; rfl
  · rw [if_neg h, if_neg (fun e => h e.symm)]
theorem turnB_twice (b : List UInt8) (k : Nat) (hk : k < b.length) : turnB (turnB b k) k = b := by
  apply List.ext_getElem
  · rw [turnB_length, turnB_length]
  · intro i h1 h2
    rw [turnB_get _ _ _ (by rw [turnB_length]; exact h2), turnB_get _ _ _ h2]
    by_cases h : i = k
    · rw [if_pos h, if_pos h, xor_twice]
    · rw [if_neg h, if_neg h]
theorem RB.mem {w : World} {A : Option Addr} {bs : List UInt8} (h : RB w A bs) (h0 : 0 < bs.length) : ∃ b o, A = some ⟨b, o, none⟩ ∧ ∀ j (hj : j < bs.length), w.cell? ⟨b, o + j, none⟩ = some (.int .u8 ((bs[j]'hj).toNat : Int)) := by
  rcases h with h | ⟨b, o, e, h⟩
  · cases bs with
    | nil => simp at h0
    | cons x l => simp [bvs] at h
  · exact ⟨b, o, e, fun j hj => h j _ (by simp [bvs, bv, hj])⟩
set_option maxRecDepth 100000 in
set_option maxHeartbeats 4000000 in
theorem diskTurns_in (A0 : Option Addr) (n0 c0 : Nat) (x : List UInt8) (t : Int) (w : World) (h0 : InB w A0 n0 c0 x) (ht : -9223372036854775808 ≤ t ∧ t ≤ 9223372036854775807) :
    Calls Tryd.prog 5 #[.slice A0 n0 c0, .int .i64 t] w fun e w' => e = .returned (.bool true) ∧ Ext w w' := by
  have hstr : (⟨#[97]⟩ : ByteArray) = str nA := rfl
  obtain ⟨hX, hXc, hXr⟩ := h0.short
  have hc0 := h0.cap
  have hs0 := fun w => short_at A0 n0 c0 w hc0
  clear h0
  obtain ⟨N, hN⟩ : ∃ N, N = min n0 200 := ⟨_, rfl⟩
  have hN200 : N ≤ 200 := by omega
  rw [← hN] at hX hXc hs0
  generalize x.take 200 = X at hX hXr
  have HX := hid hX; have HXr := hid hXr
  clear hX hXr hN hc0
  go_enter Tryd.func5, Tryd.ntmps5
  go_wp2_with fail
  refine (shown_at _).mono ?_
  rintro e w1 ⟨rfl, hE⟩
  have HE1 := hid hE; clear hE
  go_wp2_with fail
  refine (run_new HE1.out 4000).mono ?_
  rintro e w2 ⟨d, m, rfl, hR⟩
  rw [show max (4000 : Int) 0 = 4000 by decide] at hR
  have HR := hid hR; clear hR HE1
  go_wp2_with fail
  refine (hs0 _).mono ?_
  rintro e w' ⟨rfl, rfl⟩
  clear hs0
  go_wp2_with fail
  have e1 := app_none (q := 4000) (nm := nA) (bs := X) may_nA (by have := HX.out; omega) (by have := HX.out; omega)
  refine (HR.out.append nA (by decide) A0 N c0 X HX.out (by omega) (HR.out.arg HXr.out)).mono ?_
  rintro e w3 ⟨rfl, hR, -⟩
  rw [e1.2, burn_none] at hR
  have HR3 := hid hR; clear hR HR e1
  go_wp2_with fail
  refine HR3.out.clone.mono ?_
  rintro e w4 ⟨d2, m2, rfl, hR, hC, hE, n1, n2, n3, n4⟩
  have HR4 := hid hR; have HC4 := hid hC; clear hR hC HR3 hE
  go_wp2_with fail
  refine (HR4.out.turn nA (by decide) t).mono ?_
  rintro e w5 ⟨rfl, hR, hK⟩
  have HC5 := hid (HC4.out.other HR4.out hK n1 n2 n3 n4)
  have ht1 := turn_one nA ⟨X, 0⟩ t
  rw [show (File.b ⟨X, 0⟩).length = N from HX.out.symm] at ht1
  by_cases hb : t < 0 ∨ (N : Int) ≤ t
  · rw [if_pos hb, if_pos hb] at ht1
    rw [ht1.1]
    rw [ht1.2] at hR
    have HR5 := hid hR
    clear hR HR4 HC4 ht1 HC5 hK
    go_wp2_with fail
    refine (HR5.out.read nA (by decide)).mono ?_
    rintro e w6 ⟨v, rfl, hO, hE, hR⟩
    rw [(read_one _ _).1, (read_one _ _).2] at *
    obtain ⟨A, c, rfl, -, hr⟩ := OB.read hO
    have hs := run_str hr c
    have hs2 := run_str (hR.arg_rb HXr.out) c0
    have e3 := str_toList X
    rw [← HX.out] at hs hs2 ⊢
    have HR6 := hid hR; clear hR HR5 hO hE hr
    by_cases ht0 : t < 0
    all_goals
      have ht1 : 0 ≤ t → (N : Int) ≤ t := by omega
      try have ht2 := ht1 (by omega)
      clear hb ht1
      go_wp2
      go_ret
      exact ⟨rfl, HR6.out.below⟩
  rw [if_neg hb, if_neg hb] at ht1
  rw [ht1.1]
  rw [ht1.2] at hR
  obtain ⟨k, rfl⟩ := Int.eq_ofNat_of_zero_le (show 0 ≤ t by omega)
  have hkN : k < N := by omega
  have hk1 : ¬ ((k : Int) < 0) := by omega
  have hk2 : ¬ ((N : Int) ≤ (k : Int)) := by omega
  rw [Int.toNat_natCast] at hR
  have HR5 := hid hR
  clear hR HR4 HC4 ht1 hb hK
  go_wp2_with fail
  refine (HR5.out.read nA (by decide)).mono ?_
  rintro e w6 ⟨v, rfl, hO, hE, hR⟩
  rw [(read_one _ _).1, (read_one _ _).2] at *
  have HC6 := hid (HC5.out.ext hE)
  obtain ⟨A2, c2, rfl, hc2, hr2⟩ := OB.read hO
  obtain ⟨b2, o2, rfl, hg2⟩ := hr2.mem (by rw [turnB_length, ← HX.out]; omega)
  obtain ⟨b1, o1, rfl, hg1⟩ := (hR.arg_rb HXr.out).mem (by rw [← HX.out]; omega)
  have hT : (turnB X k).length = N := by rw [turnB_length]; exact HX.out.symm
  rw [show (File.b ⟨turnB X k, 0⟩).length = N from hT] at hc2 ⊢
  have Hg1 := hid hg1; have Hg2 := hid hg2
  have HR6 := hid hR
  clear hg1 hg2 hR HR5 HC5 hO hE hr2 hT
  go_wp2_with fail
  go_loop [11] (fun i => ∃ j : Nat, j ≤ N ∧ i = .int .i64 (j : Int)) (fun i => N - (intOf i).toNat)
  case atStart => exact ⟨0, by omega, rfl⟩
  case round =>
    obtain ⟨j, hj, rfl⟩ := hrel
    by_cases hjN : j < N
    · have hjX : j < X.length := by rw [← HX.out]; exact hjN
      have g1 := Hg1.out j hjX
      have g2 := Hg2.out j (show j < (turnB X k).length by rw [turnB_length]; exact hjX)
      rw [turnB_get X k j hjX] at g2
      have hjI : (j : Int) < (N : Int) := by omega
      by_cases hjk : j = k
      · subst hjk
        rw [if_pos rfl] at g2
        have hx := xor_one X[j]
        generalize X[j] = b at g1 g2 hx
        generalize b ^^^ 1 = u at g2 hx
        go_wp2
        go_round
        case rel => exact ⟨j + 1, by omega, by go_num⟩
        case measure => simp [intOf]; omega
      · rw [if_neg hjk] at g2
        have hjk2 : ((j : Int) == (k : Int)) = false := by rw [beq_eq_false_iff_ne]; omega
        generalize X[j] = b at g1 g2
        go_wp2
        go_round
        case rel => exact ⟨j + 1, by omega, by go_num⟩
        case measure => simp [intOf]; omega
    · have hjN' : j = N := by omega
      subst hjN'
      go_wp2_with fail
      refine (HR6.out.turn nA (by decide) k).mono ?_
      rintro e w7 ⟨rfl, hR, hK⟩
      have HC7 := hid (HC6.out.other HR6.out hK n1 n2 n3 n4)
      have ht1 := (turn_one nA ⟨turnB X k, 0⟩ k).2
      rw [if_neg (by rw [show (File.b ⟨turnB X k, 0⟩).length = X.length from turnB_length X k, ← HX.out]; omega), Int.toNat_natCast, show turnB (File.b ⟨turnB X k, 0⟩) k = X from turnB_twice X k (by rw [← HX.out]; exact hkN)] at ht1
      rw [ht1] at hR
      have HR7 := hid hR
      clear hR HR6 HC6 ht1 hK Hg1 Hg2
      go_wp2_with fail
      refine (HR7.out.read nA (by decide)).mono ?_
      rintro e w8 ⟨v, rfl, hO, hE, hR⟩
      rw [(read_one _ _).1, (read_one _ _).2] at *
      have HC8 := hid (HC7.out.ext hE)
      obtain ⟨A3, c3, rfl, hc3, hr3⟩ := OB.read hO
      rw [show (File.b ⟨X, 0⟩).length = j from HX.out.symm] at hc3 ⊢
      have Hr3 := hid hr3
      have HR8 := hid hR
      clear hR HR7 HC7 hO hE hr3
      go_wp2_with fail
      refine (HC8.out.read nA (by decide)).mono ?_
      rintro e w9 ⟨v, rfl, hO, hE, hC⟩
      rw [(read_one _ _).1, (read_one _ _).2] at *
      obtain ⟨A4, c4, rfl, hc4, hr4⟩ := OB.read hO
      rw [show (File.b ⟨X, 0⟩).length = j from HX.out.symm] at hc4 ⊢
      have hs3 := run_str (Hr3.out.below hE) c3
      have hs4 := run_str hr4 c4
      have hs1 := run_str (hC.arg_rb HXr.out) c0
      have e3 := str_toList X
      rw [← HX.out] at hs1
      rw [show (File.b ⟨X, 0⟩).length = j from HX.out.symm] at hs3 hs4
      have HC9 := hid hC
      clear hC HC8 HR8 hO hE hr4 Hr3
      go_wp2
      go_ret
      exact ⟨rfl, HC9.out.below⟩
end Go.Proofs.YtpipmkaljkhgiaaDoor
