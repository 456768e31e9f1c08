/- The law ProjNone. -/
import Derived.Test.YtffidnimoodniaaGreatPjShown
import Derived.Test.YtffidnimoodniaaGreatLd
namespace Go.Proofs.YtffidnimoodniaaGreat
open Go Go.RowKit
set_option linter.unusedSimpArgs false
set_option linter.unusedVariables false

set_option maxRecDepth 100000 in
set_option maxHeartbeats 4000000 in
theorem projNone_in (A : Option Addr) (n c : Nat) (ds : List DefV) (A1 : Option Addr) (n1 c1 : Nat) (bs : List UInt8) (A2 : Option Addr) (n2 c2 : Nat) (l : List EvV) (w : World) (hd : SlR RDef w (· < w.heap.size) A n c ds) (hb : SlR Rep.u8 w (· < w.heap.size) A1 n1 c1 bs) (hl : SlR REv w (· < w.heap.size) A2 n2 c2 l) :
    Calls Tryz.prog 7 #[.slice A n c, .slice A1 n1 c1, .slice A2 n2 c2] w fun e w' => e = .returned (.bool true) ∧ Below w.heap.size w w' := by
  have hnc := hd.2.1
  have hcm := hd.2.2.1
  have hnc1 := hb.2.1
  have hcm1 := hb.2.2.1
  have Hd := hid hd
  have Hb := hid hb
  have Hl := hid hl
  clear hd hl hb
  go_enter Tryz.func7, Tryz.ntmps7
  go_wp2_with fail
  -- the document's example; d is cut at six: from w on, world wc behind it
  refine (shown16_at w).mono ?_
  rintro e w1 ⟨rfl, hE⟩
  have HE1 := hid hE
  clear hE
  go_upto_if 17 with (fail)
  go_cut [0] (fun x wx => Hid (wx = w1) ∧ ∃ n' : Nat, n' ≤ 6 ∧ n' ≤ c ∧ x = .slice A n' c ∧ Hid (SlR RDef w1 (· < w1.heap.size) A n' c (ds.take 6)))
  case first =>
    by_cases h6 : 6 < n
    · have hlt : (6 : Int) < (n : Int) := by omega
      have Hd6 := hid (slR_take (Hd.out.grow HE1.out) 6 (by omega))
      go_wp2_with fail
      go_meet
      case rel => exact ⟨hid rfl, 6, Nat.le_refl _, by omega, rfl, Hd6⟩
    · have hlt : ¬ ((6 : Int) < (n : Int)) := by omega
      have Hd6 := hid (show SlR RDef w1 (· < w1.heap.size) A n c (ds.take 6) from by rw [List.take_of_length_le (by have := Hd.out.1; omega)]; exact Hd.out.grow HE1.out)
      go_wp2_with fail
      go_meet
      case rel => exact ⟨hid rfl, n, by omega, hnc, rfl, Hd6⟩
  case rest =>
  obtain ⟨hw, n6, hn6, hnc6, rfl, HD6⟩ := hcut
  obtain rfl := hw.out.symm
  clear hw Hd hnc
  -- b is cut at 400
  go_upto_if 22 with (fail)
  go_cut [1] (fun x wx => Hid (wx = w1) ∧ ∃ n' : Nat, n' ≤ 400 ∧ n' ≤ c1 ∧ x = .slice A1 n' c1 ∧ Hid (SlR Rep.u8 w (· < w.heap.size) A1 n' c1 (bs.take 400)))
  case first =>
    by_cases h4 : 400 < n1
    · have hlt : (400 : Int) < (n1 : Int) := by omega
      have Hd4 := hid (slR_take Hb.out 400 (by omega))
      go_wp2_with fail
      go_meet
      case rel => exact ⟨hid rfl, 400, Nat.le_refl _, by omega, rfl, Hd4⟩
    · have hlt : ¬ ((400 : Int) < (n1 : Int)) := by omega
      have Hd4 := hid (show SlR Rep.u8 w (· < w.heap.size) A1 n1 c1 (bs.take 400) from by rw [List.take_of_length_le (by have := Hb.out.1; omega)]; exact Hb.out)
      go_wp2_with fail
      go_meet
      case rel => exact ⟨hid rfl, n1, by omega, hnc1, rfl, Hd4⟩
  case rest =>
  obtain ⟨hw, n4, hn4, hnc4, rfl, HB4⟩ := hcut
  obtain rfl := hw.out.symm
  clear hw Hb hnc1
  generalize bs.take 400 = b4 at *
  generalize ds.take 6 = ds' at *
  have hnew := projNew2_at HD6.out
  go_wp2_with fail
  refine hnew.mono ?_
  clear hnew
  rintro e w2 ⟨hE2, hans⟩
  have HE2 := hid (HE1.out.trans' hE2)
  have hs1 := hid HE1.out.size
  rcases hans with ⟨h0, rfl⟩ | ⟨h0, p, L, S, rfl, hS, hv, hR, hSl, hb⟩
  · clear HD6 hE2
    generalize defsE ds' = me at *
    have hm1 : (me == 0) = false := by simpa using h0
    have hm2 : (me != 0) = true := by simpa using h0
    go_wp2
    go_ret
    exact ⟨rfl, HE2.out⟩
  obtain ⟨hlen, hmay⟩ := defsE_zero h0
  have Hdl := hid hlen
  have HD := hid (one_new hS hb)
  have Hds := hid (viewP_ds L ds' hv)
  have HfA := hid (show FarV 1125899906842624 400 400 (viewP L) by rw [hv]; exact (farV_new hlen).le (by decide) (by decide))
  clear hmay h0 hS hv hR hSl hb hE2 hlen HD6
  generalize hSS : (fun k => k = p ∨ Blk L k) = SS at *
  clear hSS
  -- was
  obtain ⟨wb, hwb⟩ : ∃ wb, setB (viewP L) = wb := ⟨_, rfl⟩
  have Hnb := hid hwb
  have HPB := hid (HfA.out.put (by decide))
  clear hwb
  -- Put, as a text: hs the conversion; HPB: PutFit; Hnb: setB = nb
  go_wp2_with fail
  have hcc := setPut_at HD.out.A HPB.out
  rw [Hnb.out] at hcc
  refine hcc.mono ?_
  clear hcc
  rintro e w3 ⟨hE, v, rfl, hO⟩
  obtain ⟨A3, n3, c3, rfl, rfl, -, hr3⟩ := OB.rd hO
  have hs := run_str hr3 c3
  have HD3 := hid (HD.out.ext hE)
  have HE3 := hid (HE2.out.trans' hE)
  clear hE hO hr3
  have Hwb := hid Hnb.out
  -- a copy of b
  have hE0 := ext_alloc w3 (.cells #[] 5)
  have HO0 := hid (OwnK.empty (R := Rep.u8) (K := fun _ => False) (e := 5) w3 w3.heap.size (Nat.le_refl _))
  have HEs := hid hE0
  have HX := hid (show ∃ cs, Rows Rep.u8 (w3.alloc (.cells #[] 5)) (fun _ => False) b4 cs ∧ RV (w3.alloc (.cells #[] 5)) A1 cs from by
    have h1 := slR_rb (HB4.out.grow (HE3.out.trans' hE0))
    exact ⟨_, rows_u8 b4, h1⟩)
  have Hn4 := hid HB4.out.1
  have hsz := hE0.size
  have HK := hid (show ∀ k, False → k < w3.heap.size from fun _ h => h.elim)
  have hbb := run_str (slR_rb HB4.out) c1
  clear hE0 hbb
  go_wp2_with (at_builtin; refine wpList_appK (w0 := w3) (R := Rep.u8) (K := fun _ => False) (xs := []) (base := w3.heap.size) u8info rfl (.tmp 41) (.tmp 42) rfl rfl HO0 HK HEs hsz A1 n4 c1 b4 rfl Hn4 HX (by simp; omega) (by simp; omega) ?_; intro v4 w4 HO4 HE4 _)
  obtain ⟨A4, c4, rfl, hR4⟩ := ownK_out (S := SS) HO4.out (fun _ h => h.elim) (fun k hk => HD3.out.lt k hk)
  have HD4 := hid (HD3.out.ext HE4.out)
  have HE4 := hid (HE3.out.trans' HE4.out)
  have hcc := setLoad_at HD4.out.A HD4.out.lt (by have := HfA.out.many; omega) hR4 (by rw [List.nil_append]; have := Hn4.out; omega)
  have hl4 : ([] ++ b4 : List UInt8).length = n4 := by rw [List.nil_append]; exact Hn4.out.symm
  rw [hl4] at hcc ⊢
  rw [List.nil_append] at hcc
  clear hR4 HO4 HO0 HX hl4 HEs hsz HK hs
  go_wp2_with fail
  refine hcc.mono ?_
  clear hcc
  rintro e w5 hD
  obtain ⟨g, rfl, S5, L5, hD5, hg⟩ := HD4.out.load hD
  have hpl := Nat.le_trans hs1.out (HD4.out.lo _ HD4.out.A.pIn)
  have HE5 := hid (show Ext w w5 from HE4.out.trans (hD.kept.below hpl hpl HE4.out.size))
  rw [Hds.out] at hg
  have Hg := hid hg
  have HD5 := hid hD5
  clear hD hg hD5 hpl
  have HfB := hid (show FarV 1125899906842624 400 400 (viewP L5) by
    rcases Hg.out with ⟨Es, h1, -, h2⟩ | ⟨-, -, h2⟩
    · rw [h2]; exact farV_load Hdl.out (by have := Hn4.out; omega) h1
    · rw [h2]; exact HfA.out)
  have HPB := hid (HfB.out.put (by decide))
  obtain ⟨nb, hnb⟩ : ∃ nb, setB (viewP L5) = nb := ⟨_, rfl⟩
  have Hnb := hid hnb
  have Hgb := hid (show (g = 0 ∧ nb = b4) ∨ (g = 2 ∧ nb = wb) from by
    rcases Hg.out with ⟨Es, h1, h3, h2⟩ | ⟨-, h3, h2⟩
    · exact .inl ⟨h3, by rw [← hnb, h2]; exact (ldAll_inv h1).2.1⟩
    · exact .inr ⟨h3, by rw [← hnb, h2]; exact Hwb.out⟩)
  clear hnb Hg
  -- Put, as a text: hs the conversion; HPB: PutFit; Hnb: setB = nb
  go_wp2_with fail
  have hcc := setPut_at HD5.out.A HPB.out
  rw [Hnb.out] at hcc
  refine hcc.mono ?_
  clear hcc
  rintro e w6 ⟨hE, v, rfl, hO⟩
  obtain ⟨A3, n3, c3, rfl, rfl, -, hr3⟩ := OB.rd hO
  have hs := run_str hr3 c3
  have HD6 := hid (HD5.out.ext hE)
  have HE6 := hid (HE5.out.trans' hE)
  clear hE hO hr3
  have hbb := run_str (slR_rb (HB4.out.grow HE6.out)) c1
  rw [← Hn4.out] at hbb
  go_upto_region 12 with (fail)
  clear hs
  go_cut [64] (fun z wx => z = .bool false ∧ Hid (wx = w6))
  case first =>
    rcases Hgb.out with ⟨rfl, rfl⟩ | ⟨rfl, rfl⟩
    · go_wp2_with fail
      go_meet
      case rel => exact ⟨rfl, hid rfl⟩
    · go_wp2_with fail
      go_meet
      case rel => exact ⟨rfl, hid rfl⟩
  case rest =>
  obtain ⟨rfl, hw⟩ := hcut
  obtain rfl := hw.out.symm
  clear hw hbb
  -- no records
  have hcc := setApply_at HD6.out.A HD6.out.lt (by have := HfB.out.many; omega) (slR_nil (R := RRec) w6 (Out S5 w6)) (HfB.out.run (by decide)) (fun e he => by simp [evsOf] at he)
  rw [show evsOf [] = [] from rfl] at hcc
  -- Apply: hcc its contract
  go_wp2_with fail
  refine hcc.mono ?_
  clear hcc
  rintro e w7 hD
  obtain ⟨g2, rfl, S7, L7, hD5, hg⟩ := HD6.out.did hD
  have hpl := Nat.le_trans hs1.out (HD6.out.lo _ HD6.out.A.pIn)
  have HE7 := hid (show Ext w w7 from HE6.out.trans (hD.kept.below hpl hpl HE6.out.size))
  have Hg2 := hid hg
  have HD7 := hid hD5
  clear hD hg hD5 hpl
  rcases Hg2.out with ⟨-, rfl, hv7⟩ | ⟨hno, -, -⟩
  rotate_left
  · rw [okAll_nil] at hno; cases hno
  rw [runAll_nil] at hv7
  have HfC := hid (show FarV 1125899906842624 400 400 (viewP L7) by rw [hv7]; exact HfB.out)
  have HPB := hid (HfC.out.put (by decide))
  have Hnb := hid (show setB (viewP L7) = nb by rw [hv7]; exact Hnb.out)
  clear hv7 Hg2
  -- Put, as a text: hs the conversion; HPB: PutFit; Hnb: setB = nb
  go_wp2_with fail
  have hcc := setPut_at HD7.out.A HPB.out
  rw [Hnb.out] at hcc
  refine hcc.mono ?_
  clear hcc
  rintro e w8 ⟨hE, v, rfl, hO⟩
  obtain ⟨A3, n3, c3, rfl, rfl, -, hr3⟩ := OB.rd hO
  have hs := run_str hr3 c3
  have HD8 := hid (HD7.out.ext hE)
  have HE8 := hid (HE7.out.trans' hE)
  clear hE hO hr3
  go_wp2_with fail
  clear hs
  -- recs(..): hRF: the row that came, aside of the sets
  refine (recs_at (K := (· < w.heap.size)) (Hl.out.ext fun k hk => HE8.out.block k hk) (fun k hk => Nat.lt_of_lt_of_le hk HE8.out.size)).mono ?_
  rintro e w9 ⟨v, rfl, hO, hE4⟩
  obtain ⟨AF, cF, rfl, hRF⟩ := ownK_out (S := S7) hO (fun k hk => ⟨Nat.lt_of_lt_of_le hk (Nat.le_trans HE8.out.size hE4.size), fun h => by have := HD8.out.lo k h; have := hs1.out; omega⟩) (fun k hk => HD8.out.lt k hk)
  have HD9 := hid (HD8.out.ext hE4)
  have HE9 := hid (HE8.out.trans' hE4)
  clear hO hE4
  have hcc := setApply_at HD9.out.A HD9.out.lt (by have := HfC.out.many; omega) hRF (HfC.out.run (Nat.le_trans (recsF_len 30 l) (by decide))) (recs_small l)
  clear hRF
  generalize (recsF 30 l).length = nF at *
  -- Apply: hcc its contract
  go_wp2_with fail
  refine hcc.mono ?_
  clear hcc
  rintro e w10 hD
  obtain ⟨g3, rfl, S10, L10, hD5, hg⟩ := HD9.out.did hD
  have hpl := Nat.le_trans hs1.out (HD9.out.lo _ HD9.out.A.pIn)
  have HE10 := hid (show Ext w w10 from HE9.out.trans (hD.kept.below hpl hpl HE9.out.size))
  have Hg3 := hid hg
  have HD10 := hid hD5
  clear hD hg hD5 hpl
  rcases Hg3.out with ⟨-, rfl, -⟩ | ⟨-, rfl, rfl⟩
  · clear Hg3
    go_wp2
    go_ret
    exact ⟨rfl, HE10.out⟩
  · clear Hg3
    -- Put, as a text: hs the conversion; HPB: PutFit; Hnb: setB = nb
    go_wp2_with fail
    have hcc := setPut_at HD10.out.A HPB.out
    rw [Hnb.out] at hcc
    refine hcc.mono ?_
    clear hcc
    rintro e w11 ⟨hE, v, rfl, hO⟩
    obtain ⟨A3, n3, c3, rfl, rfl, -, hr3⟩ := OB.rd hO
    have hs := run_str hr3 c3
    have HD11 := hid (HD10.out.ext hE)
    have HE11 := hid (HE10.out.trans' hE)
    clear hE hO hr3
    go_wp2
    go_ret
    exact ⟨rfl, HE11.out⟩
end Go.Proofs.YtffidnimoodniaaGreat
