/- The law ProjOne. -/
import Derived.Test.YtffidnimoodniaaGreatPjShown
import Derived.Test.YtffidnimoodniaaGreatPja
namespace Go.Proofs.YtffidnimoodniaaGreat
open Go Go.RowKit
set_option linter.unusedSimpArgs false
set_option linter.unusedVariables false

set_option maxRecDepth 100000 in
set_option maxHeartbeats 4000000 in
theorem projOne_in (A : Option Addr) (n c : Nat) (ds : List DefV) (A1 : Option Addr) (n1 c1 : Nat) (l : List EvV) (i : Int) (w : World) (hd : SlR RDef w (· < w.heap.size) A n c ds) (hl : SlR REv w (· < w.heap.size) A1 n1 c1 l) (hi : -9223372036854775808 ≤ i ∧ i ≤ 9223372036854775807) :
    Calls Tryz.prog 3 #[.slice A n c, .slice A1 n1 c1, .int .i64 i] w fun e w' => e = .returned (.bool true) ∧ Below w.heap.size w w' := by
  have hnc := hd.2.1
  have hcm := hd.2.2.1
  have Hd := hid hd
  have Hl := hid hl
  clear hd hl
  go_enter Tryz.func3, Tryz.ntmps3
  go_wp2_with fail
  -- the document's example; d is cut at six: from w on, world wc behind it
  refine (shown16_at w).mono ?_
  rintro e w1 ⟨rfl, hE⟩
  have HE1 := hid hE
  clear hE
  go_upto_if 22 with (fail)
  go_cut [0] (fun x wx => Hid (wx = w1) ∧ ∃ n' : Nat, n' ≤ 6 ∧ n' ≤ c ∧ x = .slice A n' c ∧ Hid (SlR RDef w1 (· < w1.heap.size) A n' c (ds.take 6)))
  case first =>
    by_cases h6 : 6 < n
    · have hlt : (6 : Int) < (n : Int) := by omega
      have Hd6 := hid (slR_take (Hd.out.grow HE1.out) 6 (by omega))
      go_wp2_with fail
      go_meet
      case rel => exact ⟨hid rfl, 6, Nat.le_refl _, by omega, rfl, Hd6⟩
    · have hlt : ¬ ((6 : Int) < (n : Int)) := by omega
      have Hd6 := hid (show SlR RDef w1 (· < w1.heap.size) A n c (ds.take 6) from by rw [List.take_of_length_le (by have := Hd.out.1; omega)]; exact Hd.out.grow HE1.out)
      go_wp2_with fail
      go_meet
      case rel => exact ⟨hid rfl, n, by omega, hnc, rfl, Hd6⟩
  case rest =>
  obtain ⟨hw, n6, hn6, hnc6, rfl, HD6⟩ := hcut
  obtain rfl := hw.out.symm
  clear hw Hd hnc
  generalize ds.take 6 = ds' at *
  have hnew := projNew2_at HD6.out
  go_wp2_with fail
  refine hnew.mono ?_
  clear hnew
  rintro e w2 ⟨hE2, hans⟩
  have HE2 := hid (HE1.out.trans' hE2)
  have hs1 := hid HE1.out.size
  rcases hans with ⟨h0, rfl⟩ | ⟨h0, p, L, S, rfl, hS, hv, hR, hSl, hb⟩
  · clear HD6 hE2
    generalize defsE ds' = me at *
    have hm1 : (me == 0) = false := by simpa using h0
    have hm2 : (me != 0) = true := by simpa using h0
    go_wp2
    go_ret
    exact ⟨rfl, HE2.out⟩
  obtain ⟨hlen, hmay⟩ := defsE_zero h0
  have Hmay := hid hmay
  clear hmay h0
  by_cases h1 : i < 0
  · clear hE2 HD6 hS hv hR hSl hb
    go_wp2
    go_ret
    exact ⟨rfl, HE2.out⟩
  by_cases h2 : (n6 : Int) ≤ i
  · clear hE2 HD6 hS hv hR hSl hb
    go_wp2
    go_ret
    exact ⟨rfl, HE2.out⟩
  obtain ⟨k, rfl⟩ : ∃ k : Nat, i = (k : Int) := ⟨i.toNat, by omega⟩
  have hk6 : k < n6 := by omega
  have hlt' : (k : Int) < (n6 : Int) := by omega
  have hk0 : (0 : Int) ≤ (k : Int) := by omega
  have hw1 : IntKind.i64.wrap ((k : Int) + 1) = (k : Int) + 1 := by rw [IntKind.wrap_i64]; omega
  have hkx : k < ds'.length := by have := HD6.out.1; omega
  obtain ⟨b, o, B, d, rfl, -, -⟩ := def_at HD6.out k hkx
  have hone := slR_take (slR_drop (HD6.out.grow hE2) k (by omega)) 1 (by omega)
  have hone' : (ds'.drop k).take 1 = [ds'[k]] := by rw [List.drop_eq_getElem_cons hkx]; rfl
  rw [hone', show RDef.size = 3 from rfl] at hone
  have HM2 := hid (And.intro hS (And.intro hv (And.intro hR (And.intro hSl hb))))
  have Htm := hid (Hmay.out _ (List.getElem_mem hkx))
  have Hvi := hid (show (ds'.map fun d => (d, ([] : Ents)))[k]? = some (ds'[k], []) by rw [List.getElem?_map, List.getElem?_eq_getElem hkx]; rfl)
  have Hdl := hid hlen
  have hnew2 := projNew2_at hone
  clear hS hv hR hSl hb hone hone' hlen hE2
  generalize ds'[k] = t at *
  go_wp2_with fail
  refine hnew2.mono ?_
  clear hnew2
  rintro e w3 ⟨hE3, hans⟩
  rcases hans with ⟨h, -⟩ | ⟨-, q, M, S2, rfl, hS2, hv2, hR2, hSl2, hb2⟩
  · exact absurd (by unfold defsE; simp [Htm.out]) h
  obtain ⟨hS, hv, hR, hSl, hb⟩ := HM2.out
  have Hb := hid hb
  have HD := hid (duo_new (n := w1.heap.size) hS hR hb hE3 hS2 hR2 hb2 hSl2)
  have Hv := hid hv; have Hv2 := hid hv2
  have HE3 := hid (HE2.out.trans' hE3)
  clear hS hv hR hSl hb hS2 hv2 hR2 hSl2 hb2 hE3 HM2 Hb
  generalize hSS : (fun k => (k = p ∨ Blk L k) ∨ (k = q ∨ Blk M k)) = SS at *
  clear hSS
  have Hlm := hid (And.intro (show L.length = ds'.length from by rw [← viewP_len, Hv.out, List.length_map]) (show M.length = 1 from by rw [← viewP_len, Hv2.out]; rfl))
  have Hkl := hid (show k < L.length from by have := Hlm.out.1; omega)
  go_wp2_with fail
  refine (recs_at (K := (· < w.heap.size)) (Hl.out.ext fun k hk => HE3.out.block k hk) (fun k hk => Nat.lt_of_lt_of_le hk HE3.out.size)).mono ?_
  rintro e w4 ⟨v, rfl, hO, hE4⟩
  obtain ⟨AF, cF, rfl, hRF⟩ := ownK_out (S := SS) hO (fun k hk => ⟨Nat.lt_of_lt_of_le hk (Nat.le_trans HE3.out.size hE4.size), fun h => by have := HD.out.lo k h; have := hs1.out; omega⟩) (fun k hk => HD.out.lt k hk)
  have HD4 := hid (HD.out.ext hE4)
  have HE4 := hid (HE3.out.trans' hE4)
  have hfit := fitV_new ds'
  rw [← Hv.out] at hfit
  have hcc := setApply_at HD4.out.A HD4.out.lt (by have := Hlm.out.1; have := Hdl.out; omega) hRF (hfit.run (by decide) (Nat.le_trans (recsF_len 30 l) (by decide))) (recs_small l)
  clear hO hE4 hRF hfit HD
  generalize (recsF 30 l).length = nF at *
  go_wp2_with fail
  refine hcc.mono ?_
  clear hcc
  rintro e w5 hD
  obtain ⟨g, rfl, S5, L5, hD5, hg⟩ := HD4.out.did hD
  have hpl : w.heap.size ≤ p := Nat.le_trans hs1.out (HD4.out.lo _ HD4.out.A.pIn)
  have HE5 := hid (show Ext w w5 from HE4.out.trans (hD.kept.below hpl hpl HE4.out.size))
  have Hg := hid hg
  have HD5 := hid hD5
  clear hD hg hD5 HD4 hpl
  go_wp2_with fail
  refine (recs_at (K := (· < w.heap.size)) (Hl.out.ext fun k hk => HE5.out.block k hk) (fun k hk => Nat.lt_of_lt_of_le hk HE5.out.size)).mono ?_
  rintro e w6 ⟨v, rfl, hO, hE6⟩
  obtain ⟨AG, cG, rfl, hRG⟩ := ownK_out (S := S5) hO (fun k hk => ⟨Nat.lt_of_lt_of_le hk (Nat.le_trans HE5.out.size hE6.size), fun h => by have := HD5.out.lo k h; have := hs1.out; omega⟩) (fun k hk => HD5.out.lt k hk)
  have HD6 := hid (HD5.out.ext hE6)
  have HE6 := hid (HE5.out.trans' hE6)
  have hfit := fitV_new [t]
  rw [show ([t].map fun d => (d, ([] : Ents))) = viewP M from Hv2.out.symm] at hfit
  have hcc := setApply_at HD6.out.B HD6.out.lt (by have := Hlm.out.2; omega) hRG (hfit.run (by decide) (Nat.le_trans (recsF_len 30 l) (by decide))) (recs_small l)
  clear hO hE6 hRG hfit HD5
  generalize hnG : (recsF 30 l).length = nG at *
  clear hnG
  go_wp2_with fail
  refine hcc.mono ?_
  clear hcc
  rintro e w7 hD
  obtain ⟨g2, rfl, S7, M7, hD7, hg2⟩ := HD6.out.didB hD
  have hql : w.heap.size ≤ q := Nat.le_trans hs1.out (HD6.out.lo _ HD6.out.B.pIn)
  have HE7 := hid (show Ext w w7 from HE6.out.trans (hD.kept.below hql hql HE6.out.size))
  have Hg2 := hid hg2
  have HD7 := hid hD7
  clear hD hg2 hD7 HD6 hql
  rcases Hg.out with ⟨hok, rfl, hv5⟩ | ⟨-, rfl, -⟩
  rotate_left
  · clear Hg Hg2
    go_wp2
    go_ret
    exact ⟨rfl, HE7.out⟩
  have hokt : okRun t (evsOf (recsF 30 l)) [] = true := by
    rw [Hv.out] at hok
    unfold okAll at hok
    rw [List.all_eq_true] at hok
    exact hok (t, []) (List.mem_of_getElem? Hvi.out)
  rcases Hg2.out with ⟨-, rfl, hv7⟩ | ⟨hno, -, -⟩
  rotate_left
  · rw [Hv2.out] at hno
    unfold okAll at hno
    simp [hokt] at hno
  rw [Hv.out] at hv5
  rw [Hv2.out] at hv7
  have hl5 : L5.length = ds'.length := by rw [← viewP_len, hv5, runAll_len, List.length_map]
  have hl7 : M7.length = 1 := by rw [← viewP_len, hv7, runAll_len]; rfl
  have hk5 : k < L5.length := by have := Hlm.out.1; have := Hkl.out; omega
  have hx5 : L5[k].D = foldE t [] (evsOf (recsF 30 l)) := by
    have h1 : (viewP L5)[k]? = some (L5[k].d, L5[k].D) := by unfold viewP; rw [List.getElem?_map, List.getElem?_eq_getElem hk5]; rfl
    rw [hv5] at h1
    unfold runAll at h1
    rw [List.getElem?_map, Hvi.out] at h1
    simp only [Option.map_some, Option.some.injEq, Prod.mk.injEq] at h1
    exact h1.2.symm
  have hx7 : M7[0].D = foldE t [] (evsOf (recsF 30 l)) := by
    have h1 : (viewP M7)[0]? = some (M7[0].d, M7[0].D) := by unfold viewP; rw [List.getElem?_map, List.getElem?_eq_getElem (by omega)]; rfl
    rw [hv7] at h1
    simp only [runAll, List.map_cons, List.map_nil, List.getElem?_cons_zero, Option.some.injEq, Prod.mk.injEq] at h1
    exact h1.2.symm
  have hlt : (foldE t [] (evsOf (recsF 30 l))).length < 1000000 := by
    have h1 : RunFit t [] 1125899906842624 (evsOf (recsF 30 l)).length := ⟨by have := recsF_len 30 l; rw [evsOf_len]; simp; omega, fun p hp => by simp at hp, by decide, by have := recsF_len 30 l; rw [evsOf_len]; omega⟩
    have := (h1.at_ (recs_small l) _ (Nat.le_refl _)).1
    rw [List.take_length] at this
    have h2 := recsF_len 30 l
    rw [evsOf_len] at this
    simp at this
    omega
  have hcc := setEntries_at HD7.out.A k hk5 (by have := Hdl.out; omega) (by rw [hx5]; exact hlt)
  rw [hx5] at hcc
  have HE := hid (show ∀ w8, Ext w7 w8 → Calls Tryz.prog 12 #[.pointer (some ⟨q, 0, none⟩), .int .i64 0] w8 fun e w' => ToldIs w8 (foldE t [] (evsOf (recsF 30 l))) e w' from fun w8 hE => by
    have := setEntries_at (HD7.out.B.ext hE) 0 (by omega) (by omega) (by rw [hx7]; exact hlt)
    rw [hx7] at this
    exact this)
  clear hok hokt hv5 hv7 hl5 hl7 hk5 hx5 hx7 hlt Hg Hg2
  generalize foldE t [] (evsOf (recsF 30 l)) = D at *
  go_wp2_with fail
  refine hcc.mono ?_
  clear hcc
  rintro e w8 ⟨hE8, Aa, ca, rfl, hRa⟩
  have HRa := hid hRa; have HE8 := hid (HE7.out.trans' hE8)
  have hcc := HE.out w8 hE8
  clear hE8 hRa HE
  generalize hdl : D.length = dl at *
  go_wp2_with fail
  refine hcc.mono ?_
  clear hcc
  rintro e w9 ⟨hE9, Ab, cb, rfl, hRb⟩
  rw [hdl] at hRb ⊢
  clear hdl
  have hcc := same_at (HRa.out.grow hE9) hRb
  rw [decide_eq_true (rfl : D = D)] at hcc
  have HE9 := hid (HE8.out.trans' hE9)
  clear hE9 hRb HRa
  go_wp2_with fail
  refine hcc.mono ?_
  clear hcc
  rintro e w10 ⟨rfl, hE10⟩
  have HE10 := hid (HE9.out.trans' hE10)
  clear hE10
  go_wp2
  go_ret
  exact ⟨rfl, HE10.out⟩
end Go.Proofs.YtffidnimoodniaaGreat
