/- The walk of DiskRoom. -/
import Derived.Test.YtpipmkaljkhgiaaDoorDiskTurns
import Derived.Laws.MakeOwn
namespace Go.Proofs.YtpipmkaljkhgiaaDoor
open Go Go.RowKit
set_option linter.unusedSimpArgs false
set_option linter.unusedVariables false

def zerosA (n : Nat) : Array Value := madeCells (Value.int .u8 0).cells (n * 1)
theorem zerosA_list (n : Nat) : (zerosA n).toList = bvs (List.replicate n 0) := by
  unfold zerosA madeCells bvs
  apply List.ext_getElem
  · simp
  · intro i h1 h2
    simp [Value.cells, bv, Nat.mod_one]
theorem run_make_bytes (n : Nat) (hn : n ≤ 1000000) (w : World) : (Instr.makeSlice 22 (.int .i64 (n : Int)) (.int .i64 (n : Int))).run Tryd.prog w = .ok (.slice (some ⟨w.heap.size, 0, none⟩) n n) (w.alloc (.cells (zerosA n) 5)) := by
  obtain ⟨i, hi, hii⟩ := Option.map_eq_some_iff.1 u8info.hi
  simp only [Prod.mk.injEq] at hii
  obtain ⟨hz0, hz1, hz2⟩ := hii
  have := run_make (P := Tryd.prog) w 22 5 i (.int .u8 0) u8info.ht hi hz0 .i64 .i64 (n : Int) (n : Int) (by omega) (by omega) (by rw [hz2]; omega) (by omega)
  rw [hz1, Int.toNat_natCast] at this
  exact this
/-- What DiskRoom's file is: none, or one of so many bytes. -/
def OneOr (F : Files) (n : Nat) : Prop := (F = [] ∧ n = 0) ∨ ∃ bs, F = [(nA, ⟨bs, 0⟩)] ∧ bs.length = n
theorem OneOr.used {F : Files} {n : Nat} (h : OneOr F n) : usedF F = n := by
  rcases h with ⟨rfl, rfl⟩ | ⟨bs, rfl, hb⟩
  · rfl
  · simp [usedF, hb]
theorem OneOr.old {F : Files} {n : Nat} (h : OneOr F n) : (oldF F nA).b.length = n ∧ (oldF F nA).safe = 0 ∧ F.length ≤ 1 := by
  rcases h with ⟨rfl, rfl⟩ | ⟨bs, rfl, hb⟩
  · exact ⟨rfl, rfl, by simp⟩
  · unfold oldF; rw [atF_one]; exact ⟨hb, rfl, by simp⟩
theorem OneOr.step {F : Files} {n : Nat} (h : OneOr F n) (k : Nat) (q : Int) (hk : n + k ≤ 60000) :
    appE q (-1) F nA (List.replicate k 0) = (if q < (n : Int) + (k : Int) then 10 else 0) ∧ (¬ (q < (n : Int) + (k : Int)) → OneOr (appF q (-1) F nA (List.replicate k 0)) (n + k)) ∧ (q < (n : Int) + (k : Int) → appF q (-1) F nA (List.replicate k 0) = F) := by
  obtain ⟨h1, h2, h3⟩ := h.old
  have e : appE q (-1) F nA (List.replicate k 0) = (if q < (n : Int) + (k : Int) then 10 else 0) := by
    unfold appE
    rw [if_neg (by decide), if_neg (by rw [may_nA]; decide), if_neg (by rw [h1, List.length_replicate]; rintro (h | h) <;> omega), h.used, List.length_replicate]
  refine ⟨e, fun hn => ?_, fun hq => ?_⟩
  · unfold appF
    rw [e, if_neg hn, if_pos rfl]
    refine .inr ⟨(oldF F nA).b ++ List.replicate k 0, ?_, by rw [List.length_append, h1, List.length_replicate]⟩
    rw [h2]
    rcases h with ⟨rfl, rfl⟩ | ⟨bs, rfl, hb⟩
    · exact putF_nil _ _
    · exact putF_one _ _ _
  · unfold appF
    rw [e, if_pos hq, if_neg (by decide)]
theorem putF_two (f g : File) : putF nB g [(nA, f)] = [(nA, f), (nB, g)] := by
  unfold putF delF
  rw [List.filter_cons, if_pos (show (!(nA == nB)) = true by decide)]
  unfold insF
  rw [if_neg (show ¬ bytesBefore nB nA = true by decide)]; rfl
set_option maxRecDepth 100000 in
set_option maxHeartbeats 4000000 in
theorem diskRoom_in (t : Int) (A0 : Option Addr) (n0 c0 : Nat) (x : List UInt8) (w : World) (ht : -9223372036854775808 ≤ t ∧ t ≤ 9223372036854775807) (h0 : InB w A0 n0 c0 x) :
    Calls Tryd.prog 4 #[.int .i64 t, .slice A0 n0 c0] w fun e w' => e = .returned (.bool true) ∧ Ext w w' := by
  have hstr : (⟨#[97]⟩ : ByteArray) = str nA := rfl
  have hstr2 : (⟨#[98]⟩ : ByteArray) = str nB := rfl
  have HX := hid h0.len; have HXr := hid h0.read
  have hc0 := h0.cap
  have hcm := h0.max
  clear h0
  have hk1 := fun w => kind_at t 1000 w ht (by decide)
  obtain ⟨qi, hqi⟩ : ∃ qi, qi = kindN t 1000 := ⟨_, rfl⟩
  have hq1 : 0 ≤ qi ∧ qi < 1000 := by
    rw [hqi]; unfold kindN
    exact ⟨Int.emod_nonneg _ (by decide), Int.emod_lt_of_pos _ (by decide)⟩
  rw [← hqi] at hk1
  clear hqi
  obtain ⟨q, rfl⟩ := Int.eq_ofNat_of_zero_le hq1.1
  have hq : q < 1000 := by omega
  clear hq1
  go_enter Tryd.func4, Tryd.ntmps4
  go_wp2_with fail
  refine (shown_at _).mono ?_
  rintro e w1 ⟨rfl, hE⟩
  have HE1 := hid hE; clear hE
  go_wp2_with fail
  refine (hk1 _).mono ?_
  rintro e w' ⟨rfl, rfl⟩
  clear hk1
  go_wp2_with fail
  refine (run_new HE1.out (q : Int)).mono ?_
  rintro e w2 ⟨d, m, rfl, hR⟩
  rw [show max (q : Int) 0 = (q : Int) by omega] at hR
  have HR := hid hR; clear hR HE1
  go_wp2_with fail
  go_loopw [8, 9] (fun n i wr => ∃ (k b : Nat) (F : Files), k ≤ 20 ∧ b ≤ q ∧ n = .int .i64 (b : Int) ∧ i = .int .i64 (k : Int) ∧ Hid (OneOr F b) ∧ Hid (Run w wr (fun k => k = d ∨ k = m) d m (q : Int) (-1) F)) (fun _ i _ => 20 - (intOf i).toNat)
  case atStart => exact ⟨0, 0, [], by omega, by omega, rfl, rfl, .inl ⟨rfl, rfl⟩, HR⟩
  case round =>
    clear HR
    obtain ⟨k, b, F, hk, hb, rfl, rfl, HO, HR⟩ := hrel
    by_cases hgo : k < n0 ∧ k < 20
    · have hkn : (k : Int) < (n0 : Int) := by omega
      have hk20 : (k : Int) < 20 := by omega
      obtain ⟨b1, o1, eA, hg1⟩ := (HR.out.arg_rb HXr.out).mem (by rw [← HX.out]; omega)
      have g1 := hg1 k (by rw [← HX.out]; omega)
      generalize x[k]'(by rw [← HX.out]; omega) = y at g1
      have hy := y.toNat_lt
      clear hg1
      subst eA
      obtain ⟨j, hj⟩ : ∃ j, j = y.toNat % 128 := ⟨_, rfl⟩
      have hj128 : j < 128 := by omega
      have ej : ((y.toNat : Int)).tmod 128 = (j : Int) := by rw [Int.tmod_eq_emod_of_nonneg (by omega)]; omega
      have hmk := fun w => run_make_bytes j (by omega) w
      have hst := HO.out.step j (q : Int) (by omega)
      have Hst := hid hst
      clear hst hj hgo
      go_wp2_with fail
      refine ((HR.out.ext ((Below.refl _ _).alloc (Nat.le_refl _) _)).append nA (by decide) _ j j (List.replicate j 0) (by simp) (by omega) (rs_box HR.out.is.fresh _ _ (zerosA_list j))).mono ?_
      rintro e w5 ⟨rfl, hR, -⟩
      rw [burn_none] at hR
      rw [Hst.out.1]
      by_cases hq2 : (q : Int) < (b : Int) + (j : Int)
      · rw [Hst.out.2.2 hq2] at hR
        rw [if_pos hq2]
        have HR5 := hid hR
        have hq3 : ¬ ((b : Int) + (j : Int) ≤ (q : Int)) := by omega
        clear hR hmk g1 ej
        go_wp2
        go_roundw
        case rel => exact ⟨k + 1, b, F, by omega, by omega, rfl, by go_num, HO, HR5⟩
        case measure => simp [intOf]; omega
      · have HO5 := hid (Hst.out.2.1 (by omega))
        rw [if_neg hq2]
        have HR5 := hid hR
        have hq3 : (b : Int) + (j : Int) ≤ (q : Int) := by omega
        clear hR hmk g1 ej
        go_wp2
        go_roundw
        case rel => exact ⟨k + 1, b + j, _, by omega, by omega, by go_num, by go_num, HO5, HR5⟩
        case measure => simp [intOf]; omega
    · have hgo2 : ¬ ((k : Int) < (n0 : Int)) ∨ ((k : Int) < (n0 : Int) ∧ ¬ ((k : Int) < 20)) := by omega
      clear hgo
      have HU := hid HO.out.used
      rcases hgo2 with hgo2 | ⟨hgo2, hgo3⟩
      ·
        go_wp2_with fail
        refine HR.out.used.mono ?_
        rintro e w3 ⟨rfl, -, hR⟩
        rw [HU.out]
        have HR3 := hid hR
        clear hR HR
        by_cases hb0 : b = 0
        · subst hb0
          go_wp2_with fail
          refine HR3.out.used.mono ?_
          rintro e w4 ⟨rfl, -, hR⟩
          rw [HU.out]
          have HR4 := hid hR
          have hq0 : (0 : Int) ≤ (q : Int) := by omega
          clear hR HR3
          go_wp2
          go_ret
          exact ⟨rfl, HR4.out.below⟩
        obtain ⟨bs, hF, hbs⟩ : ∃ bs, F = [(nA, ⟨bs, 0⟩)] ∧ bs.length = b := by
          rcases HO.out with ⟨-, h⟩ | h
          · exact absurd h hb0
          · exact h
        subst hF
        have Hbs := hid hbs
        obtain ⟨h, hh⟩ : ∃ h, h = b / 2 := ⟨_, rfl⟩
        obtain ⟨r, hr⟩ : ∃ r, r = b - h := ⟨_, rfl⟩
        have hbp : (0 : Int) < (b : Int) := by omega
        have eh : (b : Int) / 2 = (h : Int) := by omega
        have er : (b : Int) - (h : Int) = (r : Int) := by omega
        have hhb : h ≤ b := by omega
        have hrb : r ≤ b := by omega
        have hhr : r + h = b := by omega
        have hmk1 := fun w => run_make_bytes r (by omega) w
        have hmk2 := fun w => run_make_bytes h (by omega) w
        clear hbs hh hr hb0
        go_wp2_with fail
        have e1 := trunc_ok (nm := nA) (f := ⟨bs, 0⟩) (t := (h : Int)) (by rw [show (File.b ⟨bs, 0⟩).length = b from Hbs.out]; omega)
        refine (HR3.out.trunc nA (by decide) (h : Int)).mono ?_
        rintro e w4 ⟨rfl, hR, -⟩
        rw [burn_none, e1.2, Int.toNat_natCast, Nat.zero_min] at hR
        have hlh : (bs.take h).length = h := by rw [List.length_take, Hbs.out]; omega
        generalize bs.take h = cs at hR hlh
        have HR4 := hid hR
        have Hlh := hid hlh
        clear hR HR3 e1 hlh
        go_wp2_with fail
        have e2 : appE (q : Int) (-1) [(nA, ⟨cs, 0⟩)] nB (List.replicate r 0) = 0 := by
          unfold appE
          rw [if_neg (by decide), if_neg (by rw [may_nB]; decide), if_neg (by rw [show oldF [(nA, ⟨cs, 0⟩)] nB = ⟨[], 0⟩ from rfl, List.length_replicate]; rintro (h | h); (· simp at h; omega); (· exact absurd h.2 (by simp))), if_neg (by simp [usedF, Hlh.out]; omega)]
        have e3 : appF (q : Int) (-1) [(nA, ⟨cs, 0⟩)] nB (List.replicate r 0) = [(nA, ⟨cs, 0⟩), (nB, ⟨List.replicate r 0, 0⟩)] := by
          unfold appF
          rw [e2, if_pos rfl, show oldF [(nA, ⟨cs, 0⟩)] nB = ⟨[], 0⟩ from rfl, List.nil_append, putF_two]
        refine ((HR4.out.ext ((Below.refl _ _).alloc (Nat.le_refl _) _)).append nB (by decide) _ r r (List.replicate r 0) (by simp) (by omega) (rs_box HR4.out.is.fresh _ _ (zerosA_list r))).mono ?_
        rintro e w5 ⟨rfl, hR, -⟩
        rw [burn_none, e3] at hR
        rw [e2]
        have HR5 := hid hR
        clear hR HR4 e2 e3
        go_wp2_with fail
        refine (HR5.out.remove nA (by decide)).mono ?_
        rintro e w6 ⟨rfl, hR, -⟩
        rw [burn_none, show dropF (-1) [(nA, ⟨cs, 0⟩), (nB, ⟨List.replicate r 0, 0⟩)] nA = [(nB, ⟨List.replicate r 0, 0⟩)] from rfl] at hR
        rw [show knownEF (-1) [(nA, ⟨cs, 0⟩), (nB, ⟨List.replicate r 0, 0⟩)] nA = 0 from rfl]
        have HR6 := hid hR
        clear hR HR5
        go_wp2_with fail
        have e2 := app_one (q := (q : Int)) (nm := nB) (f := ⟨List.replicate r 0, 0⟩) (bs := List.replicate h 0) may_nB (by simp; omega) (by simp; omega)
        refine ((HR6.out.ext ((Below.refl _ _).alloc (Nat.le_refl _) _)).append nB (by decide) _ h h (List.replicate h 0) (by simp) (by omega) (rs_box HR6.out.is.fresh _ _ (zerosA_list h))).mono ?_
        rintro e w7 ⟨rfl, hR, -⟩
        rw [burn_none, e2.2] at hR
        rw [e2.1]
        have HR7 := hid hR
        clear hR HR6 e2 hmk1 hmk2
        go_wp2_with fail
        refine HR7.out.used.mono ?_
        rintro e w8 ⟨rfl, -, hR⟩
        rw [show usedF [(nB, ⟨List.replicate r 0 ++ List.replicate h 0, 0⟩)] = b by simp [usedF]; omega]
        have HR8 := hid hR
        have hbq : (b : Int) ≤ (q : Int) := by omega
        clear hR HR7
        go_wp2
        go_ret
        exact ⟨rfl, HR8.out.below⟩
      ·
        go_wp2_with fail
        refine HR.out.used.mono ?_
        rintro e w3 ⟨rfl, -, hR⟩
        rw [HU.out]
        have HR3 := hid hR
        clear hR HR
        by_cases hb0 : b = 0
        · subst hb0
          go_wp2_with fail
          refine HR3.out.used.mono ?_
          rintro e w4 ⟨rfl, -, hR⟩
          rw [HU.out]
          have HR4 := hid hR
          have hq0 : (0 : Int) ≤ (q : Int) := by omega
          clear hR HR3
          go_wp2
          go_ret
          exact ⟨rfl, HR4.out.below⟩
        obtain ⟨bs, hF, hbs⟩ : ∃ bs, F = [(nA, ⟨bs, 0⟩)] ∧ bs.length = b := by
          rcases HO.out with ⟨-, h⟩ | h
          · exact absurd h hb0
          · exact h
        subst hF
        have Hbs := hid hbs
        obtain ⟨h, hh⟩ : ∃ h, h = b / 2 := ⟨_, rfl⟩
        obtain ⟨r, hr⟩ : ∃ r, r = b - h := ⟨_, rfl⟩
        have hbp : (0 : Int) < (b : Int) := by omega
        have eh : (b : Int) / 2 = (h : Int) := by omega
        have er : (b : Int) - (h : Int) = (r : Int) := by omega
        have hhb : h ≤ b := by omega
        have hrb : r ≤ b := by omega
        have hhr : r + h = b := by omega
        have hmk1 := fun w => run_make_bytes r (by omega) w
        have hmk2 := fun w => run_make_bytes h (by omega) w
        clear hbs hh hr hb0
        go_wp2_with fail
        have e1 := trunc_ok (nm := nA) (f := ⟨bs, 0⟩) (t := (h : Int)) (by rw [show (File.b ⟨bs, 0⟩).length = b from Hbs.out]; omega)
        refine (HR3.out.trunc nA (by decide) (h : Int)).mono ?_
        rintro e w4 ⟨rfl, hR, -⟩
        rw [burn_none, e1.2, Int.toNat_natCast, Nat.zero_min] at hR
        have hlh : (bs.take h).length = h := by rw [List.length_take, Hbs.out]; omega
        generalize bs.take h = cs at hR hlh
        have HR4 := hid hR
        have Hlh := hid hlh
        clear hR HR3 e1 hlh
        go_wp2_with fail
        have e2 : appE (q : Int) (-1) [(nA, ⟨cs, 0⟩)] nB (List.replicate r 0) = 0 := by
          unfold appE
          rw [if_neg (by decide), if_neg (by rw [may_nB]; decide), if_neg (by rw [show oldF [(nA, ⟨cs, 0⟩)] nB = ⟨[], 0⟩ from rfl, List.length_replicate]; rintro (h | h); (· simp at h; omega); (· exact absurd h.2 (by simp))), if_neg (by simp [usedF, Hlh.out]; omega)]
        have e3 : appF (q : Int) (-1) [(nA, ⟨cs, 0⟩)] nB (List.replicate r 0) = [(nA, ⟨cs, 0⟩), (nB, ⟨List.replicate r 0, 0⟩)] := by
          unfold appF
          rw [e2, if_pos rfl, show oldF [(nA, ⟨cs, 0⟩)] nB = ⟨[], 0⟩ from rfl, List.nil_append, putF_two]
        refine ((HR4.out.ext ((Below.refl _ _).alloc (Nat.le_refl _) _)).append nB (by decide) _ r r (List.replicate r 0) (by simp) (by omega) (rs_box HR4.out.is.fresh _ _ (zerosA_list r))).mono ?_
        rintro e w5 ⟨rfl, hR, -⟩
        rw [burn_none, e3] at hR
        rw [e2]
        have HR5 := hid hR
        clear hR HR4 e2 e3
        go_wp2_with fail
        refine (HR5.out.remove nA (by decide)).mono ?_
        rintro e w6 ⟨rfl, hR, -⟩
        rw [burn_none, show dropF (-1) [(nA, ⟨cs, 0⟩), (nB, ⟨List.replicate r 0, 0⟩)] nA = [(nB, ⟨List.replicate r 0, 0⟩)] from rfl] at hR
        rw [show knownEF (-1) [(nA, ⟨cs, 0⟩), (nB, ⟨List.replicate r 0, 0⟩)] nA = 0 from rfl]
        have HR6 := hid hR
        clear hR HR5
        go_wp2_with fail
        have e2 := app_one (q := (q : Int)) (nm := nB) (f := ⟨List.replicate r 0, 0⟩) (bs := List.replicate h 0) may_nB (by simp; omega) (by simp; omega)
        refine ((HR6.out.ext ((Below.refl _ _).alloc (Nat.le_refl _) _)).append nB (by decide) _ h h (List.replicate h 0) (by simp) (by omega) (rs_box HR6.out.is.fresh _ _ (zerosA_list h))).mono ?_
        rintro e w7 ⟨rfl, hR, -⟩
        rw [burn_none, e2.2] at hR
        rw [e2.1]
        have HR7 := hid hR
        clear hR HR6 e2 hmk1 hmk2
        go_wp2_with fail
        refine HR7.out.used.mono ?_
        rintro e w8 ⟨rfl, -, hR⟩
        rw [show usedF [(nB, ⟨List.replicate r 0 ++ List.replicate h 0, 0⟩)] = b by simp [usedF]; omega]
        have HR8 := hid hR
        have hbq : (b : Int) ≤ (q : Int) := by omega
        clear hR HR7
        go_wp2
        go_ret
        exact ⟨rfl, HR8.out.below⟩
end Go.Proofs.YtpipmkaljkhgiaaDoor
