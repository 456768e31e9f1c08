/- The law ProjPlays. -/
import Derived.Test.YtffidnimoodniaaGreatPjShown
import Derived.Test.YtffidnimoodniaaGreatBo
namespace Go.Proofs.YtffidnimoodniaaGreat
open Go Go.RowKit
set_option linter.unusedSimpArgs false
set_option linter.unusedVariables false

theorem evss_at {w : World} {K : Nat → Prop} {A : Option Addr} {n c : Nat} {xs : List (List EvV)} (h : SlR (Rep.slice REv) w K A n c xs) (i : Nat) (hi : i < xs.length) :
    ∃ b o B m d, A = some ⟨b, o, none⟩ ∧ w.cell? ⟨b, o + i, none⟩ = some (.slice B m d) ∧ SlR REv w K B m d (xs[i]'hi) := by
  obtain ⟨b, o, cs, e, hk, hd, hg⟩ := h.get (by decide) i hi
  obtain ⟨B, d, rfl, hq⟩ := slice_rel hd
  have := hg 0 _ rfl
  exact ⟨b, o, B, _, d, e, by simpa [show (Rep.slice REv).size = 1 from rfl] using this, hq⟩
set_option maxRecDepth 100000 in
set_option maxHeartbeats 8000000 in
theorem projPlays_in (A : Option Addr) (n c : Nat) (ds : List DefV) (A1 : Option Addr) (n1 c1 : Nat) (ls : List (List EvV)) (A2 : Option Addr) (n2 c2 : Nat) (bs : List UInt8) (w : World) (hd : SlR RDef w (· < w.heap.size) A n c ds) (hl : SlR (Rep.slice REv) w (· < w.heap.size) A1 n1 c1 ls) (hb : SlR Rep.u8 w (· < w.heap.size) A2 n2 c2 bs) :
    Calls Tryz.prog 5 #[.slice A n c, .slice A1 n1 c1, .slice A2 n2 c2] w fun e w' => e = .returned (.bool true) ∧ Below w.heap.size w w' := by
  have hnc := hd.2.1
  have hcm := hd.2.2.1
  have hnc2 := hb.2.1
  have hcm2 := hb.2.2.1
  have hnc1 := hl.2.1
  have hcm1 := hl.2.2.1
  have Hd := hid hd
  have Hb := hid hb
  have Hl := hid hl
  clear hd hl hb
  go_enter Tryz.func5, Tryz.ntmps5
  go_wp2_with fail
  -- the document's example; d is cut at six: from w on, world wc behind it
  refine (shown16_at w).mono ?_
  rintro e w1 ⟨rfl, hE⟩
  have HE1 := hid hE
  clear hE
  go_upto_if 18 with (fail)
  go_cut [0] (fun x wx => Hid (wx = w1) ∧ ∃ n' : Nat, n' ≤ 6 ∧ n' ≤ c ∧ x = .slice A n' c ∧ Hid (SlR RDef w1 (· < w1.heap.size) A n' c (ds.take 6)))
  case first =>
    by_cases h6 : 6 < n
    · have hlt : (6 : Int) < (n : Int) := by omega
      have Hd6 := hid (slR_take (Hd.out.grow HE1.out) 6 (by omega))
      go_wp2_with fail
      go_meet
      case rel => exact ⟨hid rfl, 6, Nat.le_refl _, by omega, rfl, Hd6⟩
    · have hlt : ¬ ((6 : Int) < (n : Int)) := by omega
      have Hd6 := hid (show SlR RDef w1 (· < w1.heap.size) A n c (ds.take 6) from by rw [List.take_of_length_le (by have := Hd.out.1; omega)]; exact Hd.out.grow HE1.out)
      go_wp2_with fail
      go_meet
      case rel => exact ⟨hid rfl, n, by omega, hnc, rfl, Hd6⟩
  case rest =>
  obtain ⟨hw, n6, hn6, hnc6, rfl, HD6⟩ := hcut
  obtain rfl := hw.out.symm
  clear hw Hd hnc
  -- b is cut at 400
  go_upto_if 23 with (fail)
  go_cut [2] (fun x wx => Hid (wx = w1) ∧ ∃ n' : Nat, n' ≤ 400 ∧ n' ≤ c2 ∧ x = .slice A2 n' c2 ∧ Hid (SlR Rep.u8 w (· < w.heap.size) A2 n' c2 (bs.take 400)))
  case first =>
    by_cases h4 : 400 < n2
    · have hlt : (400 : Int) < (n2 : Int) := by omega
      have Hd4 := hid (slR_take Hb.out 400 (by omega))
      go_wp2_with fail
      go_meet
      case rel => exact ⟨hid rfl, 400, Nat.le_refl _, by omega, rfl, Hd4⟩
    · have hlt : ¬ ((400 : Int) < (n2 : Int)) := by omega
      have Hd4 := hid (show SlR Rep.u8 w (· < w.heap.size) A2 n2 c2 (bs.take 400) from by rw [List.take_of_length_le (by have := Hb.out.1; omega)]; exact Hb.out)
      go_wp2_with fail
      go_meet
      case rel => exact ⟨hid rfl, n2, by omega, hnc2, rfl, Hd4⟩
  case rest =>
  obtain ⟨hw, n4, hn4, hnc4, rfl, HB4⟩ := hcut
  obtain rfl := hw.out.symm
  clear hw Hb hnc2
  generalize bs.take 400 = b4 at *
  generalize ds.take 6 = ds' at *
  have hnew := projNew2_at HD6.out
  go_wp2_with fail
  refine hnew.mono ?_
  clear hnew
  rintro e w2 ⟨hE2, hans⟩
  have HE2 := hid (HE1.out.trans' hE2)
  have hs1 := hid HE1.out.size
  have hnew2 := refSetNew_at (w := w2) (HD6.out.ext fun k hk => hE2.block k hk) hE2.size
  rcases hans with ⟨h0, rfl⟩ | ⟨h0, p, L, S, rfl, hS, hv, hR, hSl, hb⟩
  · clear HD6 hE2
    go_wp2_with fail
    refine hnew2.mono ?_
    clear hnew2
    rintro e w3 ⟨hE3, hans⟩
    rcases hans with ⟨-, rfl⟩ | ⟨h, -⟩
    rotate_left
    · exact absurd h h0
    have HE3 := hid (HE2.out.trans' hE3)
    clear hE3
    generalize defsE ds' = me at *
    have hm1 : (me == 0) = false := by simpa using h0
    have hm2 : (me != 0) = true := by simpa using h0
    go_wp2
    go_ret
    exact ⟨rfl, HE3.out⟩
  obtain ⟨hlen, hmay⟩ := defsE_zero h0
  have HM2 := hid (And.intro hS (And.intro hv hb))
  have Hdl := hid hlen
  have Hmay := hid hmay
  have H0 := hid h0
  clear hS hv hR hSl hb hE2 hlen hmay h0 HD6
  go_wp2_with fail
  refine hnew2.mono ?_
  clear hnew2
  rintro e w3 ⟨hE3, hans⟩
  rcases hans with ⟨h, -⟩ | ⟨-, z, M, S2, rfl, hS2, hv2, hR2, hSa, hSb, hb2⟩
  · exact absurd H0.out h
  obtain ⟨hS, hv, hb⟩ := HM2.out
  have HD := hid (both_new (n := w1.heap.size) hS hb hE3 hS2 hR2 hb2 hSa)
  have Hv := hid hv; have Hv2 := hid hv2
  have HE3 := hid (HE2.out.trans' hE3)
  clear hS hv hb hS2 hv2 hR2 hSa hSb hb2 hE3 HM2
  generalize hSS : (fun k => (k = p ∨ Blk L k) ∨ (k = z ∨ Blk M k)) = SS at *
  clear hSS
  obtain ⟨n0, hn0⟩ : ∃ n0, n0 = w1.heap.size := ⟨_, rfl⟩
  have Hn0 := hid (show w.heap.size ≤ n0 by rw [hn0]; exact hs1.out)
  rw [← hn0] at HD
  clear hn0 hs1 HE1 HE2
  -- a copy of b is loaded; so is b
  have hE0 := ext_alloc w3 (.cells #[] 5)
  have HO0 := hid (OwnK.empty (R := Rep.u8) (K := fun _ => False) (e := 5) w3 w3.heap.size (Nat.le_refl _))
  have HEs := hid hE0
  have HX := hid (show ∃ cs, Rows Rep.u8 (w3.alloc (.cells #[] 5)) (fun _ => False) b4 cs ∧ RV (w3.alloc (.cells #[] 5)) A2 cs from by
    have h1 := slR_rb (HB4.out.grow (HE3.out.trans' hE0))
    exact ⟨_, rows_u8 b4, h1⟩)
  have Hn4 := hid HB4.out.1
  have hsz := hE0.size
  have HK := hid (show ∀ k, False → k < w3.heap.size from fun _ h => h.elim)
  clear hE0
  go_wp2_with (at_builtin; refine wpList_appK (w0 := w3) (R := Rep.u8) (K := fun _ => False) (xs := []) (base := w3.heap.size) u8info rfl (.tmp 50) (.tmp 51) rfl rfl HO0 HK HEs hsz A2 n4 c2 b4 rfl Hn4 HX (by simp; omega) (by simp; omega) ?_; intro v4 w4 HO4 HE4 _)
  obtain ⟨A4, c4, rfl, hR4⟩ := ownK_out (S := SS) HO4.out (fun _ h => h.elim) (fun k hk => HD.out.lt k hk)
  have HD4 := hid (HD.out.ext HE4.out)
  have HE4 := hid (HE3.out.trans' HE4.out)
  have hcc := setLoad_at HD4.out.A HD4.out.lt (by rw [← viewP_len, Hv.out, List.length_map]; have := Hdl.out; omega) hR4 (by rw [List.nil_append]; have := Hn4.out; omega)
  have hl4 : ([] ++ b4 : List UInt8).length = n4 := by rw [List.nil_append]; exact Hn4.out.symm
  rw [hl4] at hcc ⊢
  rw [List.nil_append] at hcc
  clear hR4 HO4 HO0 HX hl4 HEs hsz HK
  go_wp2_with fail
  refine hcc.mono ?_
  clear hcc
  rintro e w5 hD
  obtain ⟨rfl, S5, L5, hD5, hv5⟩ := HD4.out.loadA hD
  have hpl := Nat.le_trans Hn0.out (HD4.out.lo _ HD4.out.A.pIn)
  have HE5 := hid (show Ext w w5 from HE4.out.trans (hD.kept.below hpl hpl HE4.out.size))
  have HD5 := hid hD5
  rw [Hv.out] at hv5 ⊢
  have Hv5 := hid hv5
  clear hD hD5 hpl hv5
  have hcc := refSetLoad_at HD5.out.B HD5.out.lt (by rw [← viewP_len, Hv2.out, List.length_map]; have := Hdl.out; omega) (fun x hx => by
    have h1 : (x.d, x.D) ∈ viewP M := List.mem_map.2 ⟨x, hx, rfl⟩
    rw [Hv2.out] at h1
    obtain ⟨d, -, e⟩ := List.mem_map.1 h1
    simp only [Prod.mk.injEq] at e
    rw [← e.2]; simp)
    ((HB4.out.ext fun k hk => HE5.out.block k hk).mono fun k hk => ⟨Nat.lt_of_lt_of_le hk HE5.out.size, fun h => by have := HD5.out.lo k h; have := Hn0.out; omega⟩) (by have := Hn4.out; omega)
  generalize hlx : loadX b4 (ds'.map fun d => (d, [])) = lx at *
  have Hlx := hid hlx
  clear hlx
  go_wp2_with fail
  refine hcc.mono ?_
  clear hcc
  rintro e w6 hD
  obtain ⟨rfl, S6, M6, hD6, hv6⟩ := HD5.out.loadB hD
  have hpl := Nat.le_trans Hn0.out (HD5.out.lo _ HD5.out.B.pIn)
  have HE6 := hid (show Ext w w6 from HE5.out.trans (hD.kept.below hpl hpl HE5.out.size))
  have HD6 := hid hD6
  rw [Hv2.out] at hv6 ⊢
  rw [Hlx.out]
  have Hvv := hid (And.intro Hv5.out hv6)
  have HF := hid (show FarV (1125899906842624 + 1000 * ((30 * 0 : Nat) : Int)) (400 + 6 * (30 * 0)) (400 - 30 * 0) (loadV b4 (ds'.map fun d => (d, []))) from farV_loadV Hdl.out (by have := Hn4.out; omega))
  have HOk := hid ((okV_new Hmay.out).load b4)
  clear hD hD6 hpl hv6 HD5 HD4 HD HE4 HE5 Hv5
  go_wp2_with fail
  go_loopw [8, 12] (fun sv i wr => ∃ (k p' : Nat) (S' : Nat → Prop) (L' M' : List Pc) (V : List (DefV × Ents)), k ≤ n1 ∧ k ≤ 6 ∧ i = .int .i64 (k : Int) ∧ sv = .pointer (some ⟨p', 0, none⟩) ∧ Hid (Both n0 wr S' p' L' z M') ∧ Hid (viewP L' = V ∧ viewP M' = V) ∧ Hid (FarV (1125899906842624 + 1000 * ((30 * k : Nat) : Int)) (400 + 6 * (30 * k)) (400 - 30 * k) V) ∧ Hid (OkV V) ∧ Hid (Ext w wr)) (fun _ i _ => n1 - (intOf i).toNat)
  case atStart => exact ⟨0, p, _, _, _, _, by omega, by omega, rfl, rfl, HD6, Hvv, HF, HOk, HE6⟩
  case round =>
    clear HD6 Hvv HF HOk HE6
    obtain ⟨k, p', S', L', M', V, hk1, hk6, rfl, rfl, HD, HV, HF, HOk, HE⟩ := hrel
    have Hnl := hid Hl.out.1
    by_cases hlt : k < n1 ∧ k < 6
    · obtain ⟨hkn, hk6'⟩ := hlt
      have hlt1 : (k : Int) < (n1 : Int) := by omega
      have hlt6 : (k : Int) < 6 := by omega
      have hk00 : ¬ ((k : Int) < 0) := by omega
      have hk0 : (0 : Int) ≤ (k : Int) := by omega
      have h0n : (0 : Int) < (n1 : Int) := by omega
      have hmany : L'.length ≤ 4 := by rw [← viewP_len, HV.out.1]; exact HF.out.few
      have hcc := setClone_at HD.out.A HD.out.lt (by omega)
      go_wp2_with fail
      refine hcc.mono ?_
      clear hcc
      rintro e w7 hC
      obtain ⟨p2, L2, S2, rfl, hT, hv2⟩ := HD.out.clone hC
      have HT := hid hT
      have HE7 := hid (HE.out.trans' hC.ext)
      have Hv2 := hid (show viewP L2 = V from hv2.trans HV.out.1)
      clear hC hT hv2 HD
      -- the old one folds the first row
      obtain ⟨lb, lo, B0, m0, d0, rfl, f0, hl0⟩ := evss_at Hl.out 0 (by have := Hnl.out; omega)
      have Hl0 := hid hl0
      have f0' := cell_below HE7.out f0
      rw [Nat.add_zero] at f0'
      generalize ls[0]'_ = l0 at *
      go_wp2_with fail
      clear f0'
      refine (recs_at (K := (· < w.heap.size)) (Hl0.out.ext fun k hk => HE7.out.block k hk) (fun k hk => Nat.lt_of_lt_of_le hk HE7.out.size)).mono ?_
      rintro e w8 ⟨v, rfl, hO, hE4⟩
      obtain ⟨AF, cF, rfl, hRF⟩ := ownK_out (S := S2) hO (fun k hk => ⟨Nat.lt_of_lt_of_le hk (Nat.le_trans HE7.out.size hE4.size), fun h => by have := HT.out.two.lo k h; have := Hn0.out; omega⟩) (fun k hk => HT.out.two.lt k hk)
      have HT8 := hid (HT.out.ext hE4)
      have HE8 := hid (HE7.out.trans' hE4)
      have hcc := setApply_at HT8.out.O HT8.out.two.lt (by omega) hRF (FarV.run (L := L') (by rw [HV.out.1]; exact HF.out) (Nat.le_trans (recsF_len 30 l0) (by omega))) (recs_small l0)
      clear hO hE4 hRF HT hl0
      generalize (recsF 30 l0).length = nF at *
      go_wp2_with fail
      refine hcc.mono ?_
      clear hcc
      rintro e w9 hD
      obtain ⟨hD9, g, rfl⟩ := HT8.out.did hD
      have HD9 := hid hD9
      have hpl := Nat.le_trans Hn0.out (HT8.out.two.lo _ HT8.out.O.pIn)
      have HE9 := hid (show Ext w w9 from HE8.out.trans (hD.kept.below hpl hpl HE8.out.size))
      clear hD hD9 hpl HT8 f0
      -- both fold the k-th
      obtain ⟨lb', lo', Bi, mi, di, el, fi, hli⟩ := evss_at Hl.out k (by have := Hnl.out; omega)
      simp only [Option.some.injEq, Addr.mk.injEq, and_true] at el
      obtain ⟨rfl, rfl⟩ := el
      have Hfi := hid fi
      have hmayr := recs_may (ls[k]'(by have := Hnl.out; omega))
      have hlenr := recs_len (ls[k]'(by have := Hnl.out; omega))
      have Hrec := hid (show ∀ W, Ext w W → Calls Tryz.prog 11 #[.slice Bi mi di] W fun e w' => ∃ v, e = .returned v ∧ OwnK RRec 62 (· < w.heap.size) w' W.heap.size v (recsF 30 (ls[k]'(by have := Hnl.out; omega))) ∧ Ext W w' from fun W hE =>
        recs_at (K := (· < w.heap.size)) (hli.ext fun k hk => hE.block k hk) (fun k hk => Nat.lt_of_lt_of_le hk hE.size))
      generalize recsF 30 (ls[k]'_) = rs at *
      have Hmr := hid hmayr
      have Hlr := hid (show (evsOf rs).length = rs.length ∧ rs.length ≤ 30 from ⟨evsOf_len rs, by rw [← evsOf_len]; exact hlenr⟩)
      have Hsm := hid (show ∀ e ∈ evsOf rs, SmallE e from fun e he => small_may (hmayr e he))
      clear hmayr hlenr hli fi
      generalize hes : evsOf rs = es at *
      have Hes := hid hes
      clear hes
      have HzS := hid HD9.out.B.pIn
      have HpS := hid HD9.out.A.pIn
      have Hlt9 := hid HD9.out.lt
      have Hlo9 := hid HD9.out.lo
      go_wp2_with fail
      apply wp_drawn_pg 6 13 (Kept2 z z) (TpX n0 S2 p2 z) (fun W => Ext w W ∧ w9.heap.size ≤ W.heap.size) (fun W => Both n0 W S2 p2 L2 z M') (fun W => ∃ S L, Both n0 W S p2 L z M' ∧ viewP L = afterV es V ∧ ∀ k, S2 k → S k) (fun W => ∃ S L M, Both n0 W S p2 L z M ∧ viewP L = afterV es V ∧ viewP M = afterV es V) [isV _, isV _, isV _, isV _, isV (.slice Bi mi di), rsX S2 rs, hfX n0 S2 p2 z (afterE es V), isV _, isV _, isV _, isV _, isV (.slice Bi mi di), rcX n0 S2 p2 z rs, isV (.int .i64 (afterE es V)), isV (.bool false)] (by kernel_rfl)
      · kernel_rfl
      · kernel_rfl
      · intro W hE
        exact ⟨⟨HE9.out.trans' hE, hE.size⟩, HD9.out.ext hE⟩
      · intro W W' hE
        exact ⟨Kept2.of_ext hE, fun h => ⟨h.1.trans' hE, Nat.le_trans h.2 hE.size⟩, fun h => h.ext hE, fun ⟨S, L, h1, h2⟩ => ⟨S, L, h1.ext hE, h2⟩, fun ⟨S, L, M, h1, h2⟩ => ⟨S, L, M, h1.ext hE, h2⟩⟩
      · refine ⟨?pls0, ?pls1, ?pls2, ?pls3, ?pls4, ?pls5, ?pls6, ?pls7, ?pls8, ?pls9, ?pls10, ?pls11, ?pls12, ?pls13, ?pls14, trivial⟩
        case pls0 =>
          refine @stepPg_quiet _ _ _ _ _ _ _ _ _ _ _ _ _ _ (by decide) (by decide) ?_
          intro v W hE hd; simp only [Region.wanted, ↓reduceIte]; (try simp [deps, waitsOn, Region.binds, knowing, isV, ownsV, anyV] at hd); simp only [putAll, List.take_succ_cons, List.take_zero, List.drop_succ_cons, List.drop_zero, Act.put, List.setIfInBounds_toArray, List.set_cons_zero, List.set_cons_succ, Nat.zero_add, Nat.reduceAdd]; go_simp; exact ⟨Below.refl _ _, rfl⟩
        case pls1 =>
          refine @stepPg_quiet _ _ _ _ _ _ _ _ _ _ _ _ _ _ (by decide) (by decide) ?_
          intro v W hE hd; simp only [Region.wanted, ↓reduceIte]; (try simp [deps, waitsOn, Region.binds, knowing, isV, ownsV, anyV] at hd); simp only [putAll, List.take_succ_cons, List.take_zero, List.drop_succ_cons, List.drop_zero, Act.put, List.setIfInBounds_toArray, List.set_cons_zero, List.set_cons_succ, Nat.zero_add, Nat.reduceAdd]; go_simp; exact ⟨Below.refl _ _, rfl⟩
        case pls2 =>
          refine @stepPg_quiet _ _ _ _ _ _ _ _ _ _ _ _ _ _ (by decide) (by decide) ?_
          intro v W hE hd; simp only [Region.wanted, ↓reduceIte]; (try simp [deps, waitsOn, Region.binds, knowing, isV, ownsV, anyV] at hd); simp only [putAll, List.take_succ_cons, List.take_zero, List.drop_succ_cons, List.drop_zero, Act.put, List.setIfInBounds_toArray, List.set_cons_zero, List.set_cons_succ, Nat.zero_add, Nat.reduceAdd]; go_simp; exact ⟨Below.refl _ _, rfl⟩
        case pls3 =>
          refine @stepPg_quiet _ _ _ _ _ _ _ _ _ _ _ _ _ _ (by decide) (by decide) ?_
          intro v W hE hd; simp only [Region.wanted, ↓reduceIte]; (try simp [deps, waitsOn, Region.binds, knowing, isV, ownsV, anyV] at hd); simp only [putAll, List.take_succ_cons, List.take_zero, List.drop_succ_cons, List.drop_zero, Act.put, List.setIfInBounds_toArray, List.set_cons_zero, List.set_cons_succ, Nat.zero_add, Nat.reduceAdd]; go_simp; exact ⟨Below.refl _ _, rfl⟩
        case pls4 =>
          refine @stepPg_quiet _ _ _ _ _ _ _ _ _ _ _ _ _ _ (by decide) (by decide) ?_
          intro v W hE hd; simp only [Region.wanted, ↓reduceIte]; (try simp [deps, waitsOn, Region.binds, knowing, isV, ownsV, anyV] at hd); simp only [putAll, List.take_succ_cons, List.take_zero, List.drop_succ_cons, List.drop_zero, Act.put, List.setIfInBounds_toArray, List.set_cons_zero, List.set_cons_succ, Nat.zero_add, Nat.reduceAdd]
          have g := cell_below hE.1 Hfi.out
          go_simp
          exact ⟨Below.refl _ _, rfl⟩
        case pls5 =>
          refine @stepPg_quiet _ _ _ _ _ _ _ _ _ _ _ _ _ _ (by decide) (by decide) ?_
          intro v W hE hd; simp only [Region.wanted, ↓reduceIte]; (try simp [deps, waitsOn, Region.binds, knowing, isV, ownsV, anyV] at hd); simp only [putAll, List.take_succ_cons, List.take_zero, List.drop_succ_cons, List.drop_zero, Act.put, List.setIfInBounds_toArray, List.set_cons_zero, List.set_cons_succ, Nat.zero_add, Nat.reduceAdd]
          go_simp
          refine (Hrec.out W hE.1).mono ?_
          rintro y w' ⟨v', rfl, hO, hE2⟩
          obtain ⟨Ao, co, e5, hRF⟩ := ownK_out (S := S2) hO (fun k hk => ⟨Nat.lt_of_lt_of_le hk (Nat.le_trans hE.1.size hE2.size), fun h => by have := Hlo9.out k h; have := Hn0.out; omega⟩) (fun k hk => Nat.lt_of_lt_of_le (Hlt9.out k hk) hE.2)
          have HRF := hid hRF; have HE2 := hid hE2; have He5 := hid e5
          clear hO hE2 hRF e5
          go_simp
          exact ⟨HE2.out, Ao, co, He5.out, HRF.out⟩
        case pls6 =>
          refine @stepPg_fst _ _ _ _ _ _ _ _ _ _ _ _ _ ?_
          intro v W hB hd; refine ⟨rfl, ?_⟩; (try simp [deps, waitsOn, Region.binds, knowing, isV, ownsV, anyV] at hd); simp only [putAll, List.take_succ_cons, List.take_zero, List.drop_succ_cons, List.drop_zero, Act.put, List.setIfInBounds_toArray, List.set_cons_zero, List.set_cons_succ, Nat.zero_add, Nat.reduceAdd]
          obtain ⟨hB, hI⟩ := hB
          obtain ⟨e0, A5, c5, e5, hR5⟩ := hd
          rw [e0, e5]
          have hcc := setApply_at hI.A hI.lt (by rw [← viewP_len, Hv2.out]; have := HF.out.few; omega) hR5 (FarV.run (L := L2) (by rw [Hv2.out]; exact HF.out) (by have := Hlr.out; omega)) (by rw [Hes.out]; exact Hsm.out)
          rw [Hes.out] at hcc
          have HBB := hid hB; have HII := hid hI
          clear hR5 hB hI e0 e5
          go_simp
          refine hcc.mono ?_
          clear hcc
          rintro x w' hD
          obtain ⟨rfl, S', L', hD', hv', hu, hn⟩ := HII.out.didA hD
          rw [Hv2.out] at hv' ⊢
          have hpl := Nat.le_trans Hn0.out (HII.out.lo _ HII.out.A.pIn)
          have HB2 := hid (show Ext w w' ∧ w9.heap.size ≤ w'.heap.size from ⟨HBB.out.1.trans (hD.kept.below hpl hpl HBB.out.1.size), Nat.le_trans HBB.out.2 hD.kept.size⟩)
          have HI1 := hid (show ∃ S L, Both n0 w' S p2 L z M' ∧ viewP L = afterV es V ∧ ∀ k, S2 k → S k from ⟨S', L', hD', hv', hu⟩)
          have HTp := hid (show TpX n0 S2 p2 z W w' from ⟨hD.kept, S', L', hD'.half hu, hn⟩)
          have HR6 := hid (show ∃ S L, Half n0 S2 w' S p2 L z from ⟨S', L', hD'.half hu⟩)
          clear hD hD' hv' hu hn hpl
          go_simp
          exact ⟨⟨⟨HB2.out, HI1.out⟩, HTp.out⟩, rfl, HR6.out⟩
        case pls7 =>
          refine @stepPg_quiet _ _ _ _ _ _ _ _ _ _ _ _ _ _ (by decide) (by decide) ?_
          intro v W hE hd; simp only [Region.wanted, ↓reduceIte]; (try simp [deps, waitsOn, Region.binds, knowing, isV, ownsV, anyV] at hd); simp only [putAll, List.take_succ_cons, List.take_zero, List.drop_succ_cons, List.drop_zero, Act.put, List.setIfInBounds_toArray, List.set_cons_zero, List.set_cons_succ, Nat.zero_add, Nat.reduceAdd]; go_simp; exact ⟨Below.refl _ _, rfl⟩
        case pls8 =>
          refine @stepPg_quiet _ _ _ _ _ _ _ _ _ _ _ _ _ _ (by decide) (by decide) ?_
          intro v W hE hd; simp only [Region.wanted, ↓reduceIte]; (try simp [deps, waitsOn, Region.binds, knowing, isV, ownsV, anyV] at hd); simp only [putAll, List.take_succ_cons, List.take_zero, List.drop_succ_cons, List.drop_zero, Act.put, List.setIfInBounds_toArray, List.set_cons_zero, List.set_cons_succ, Nat.zero_add, Nat.reduceAdd]; go_simp; exact ⟨Below.refl _ _, rfl⟩
        case pls9 =>
          refine @stepPg_quiet _ _ _ _ _ _ _ _ _ _ _ _ _ _ (by decide) (by decide) ?_
          intro v W hE hd; simp only [Region.wanted, ↓reduceIte]; (try simp [deps, waitsOn, Region.binds, knowing, isV, ownsV, anyV] at hd); simp only [putAll, List.take_succ_cons, List.take_zero, List.drop_succ_cons, List.drop_zero, Act.put, List.setIfInBounds_toArray, List.set_cons_zero, List.set_cons_succ, Nat.zero_add, Nat.reduceAdd]; go_simp; exact ⟨Below.refl _ _, rfl⟩
        case pls10 =>
          refine @stepPg_quiet _ _ _ _ _ _ _ _ _ _ _ _ _ _ (by decide) (by decide) ?_
          intro v W hE hd; simp only [Region.wanted, ↓reduceIte]; (try simp [deps, waitsOn, Region.binds, knowing, isV, ownsV, anyV] at hd); simp only [putAll, List.take_succ_cons, List.take_zero, List.drop_succ_cons, List.drop_zero, Act.put, List.setIfInBounds_toArray, List.set_cons_zero, List.set_cons_succ, Nat.zero_add, Nat.reduceAdd]; go_simp; exact ⟨Below.refl _ _, rfl⟩
        case pls11 =>
          refine @stepPg_quiet _ _ _ _ _ _ _ _ _ _ _ _ _ _ (by decide) (by decide) ?_
          intro v W hE hd; simp only [Region.wanted, ↓reduceIte]; (try simp [deps, waitsOn, Region.binds, knowing, isV, ownsV, anyV] at hd); simp only [putAll, List.take_succ_cons, List.take_zero, List.drop_succ_cons, List.drop_zero, Act.put, List.setIfInBounds_toArray, List.set_cons_zero, List.set_cons_succ, Nat.zero_add, Nat.reduceAdd]
          have g := cell_below hE.1 Hfi.out
          go_simp
          exact ⟨Below.refl _ _, rfl⟩
        case pls12 =>
          refine @stepPg_quiet _ _ _ _ _ _ _ _ _ _ _ _ _ _ (by decide) (by decide) ?_
          intro v W hE hd; simp only [Region.wanted, ↓reduceIte]; (try simp [deps, waitsOn, Region.binds, knowing, isV, ownsV, anyV] at hd); simp only [putAll, List.take_succ_cons, List.take_zero, List.drop_succ_cons, List.drop_zero, Act.put, List.setIfInBounds_toArray, List.set_cons_zero, List.set_cons_succ, Nat.zero_add, Nat.reduceAdd]
          obtain ⟨e11, -, S1, L1, hH⟩ := hd
          have HH := hid hH
          rw [e11]
          clear hH e11
          go_simp
          refine (Hrec.out W hE.1).mono ?_
          rintro y w' ⟨v', rfl, hO, hE2⟩
          obtain ⟨Ao, co, e5, hRF⟩ := ownK_out (S := S1) hO (fun k hk => ⟨Nat.lt_of_lt_of_le hk (Nat.le_trans hE.1.size hE2.size), fun h => by have := HH.out.lo k h; have := Hn0.out; omega⟩) (fun k hk => HH.out.lt k hk)
          have HRF := hid hRF; have HH2 := hid (HH.out.ext hE2); have HE2 := hid hE2; have He5 := hid e5
          clear hO hE2 hRF e5
          go_simp
          exact ⟨HE2.out, Ao, co, S1, L1, He5.out, HH2.out, HRF.out⟩
        case pls13 =>
          refine @stepPg_snd _ _ _ _ _ _ _ _ _ _ _ _ _ (by decide) ?_
          intro v W hB hd; refine ⟨rfl, ?_⟩; (try simp [deps, waitsOn, Region.binds, knowing, isV, ownsV, anyV] at hd); simp only [putAll, List.take_succ_cons, List.take_zero, List.drop_succ_cons, List.drop_zero, Act.put, List.setIfInBounds_toArray, List.set_cons_zero, List.set_cons_succ, Nat.zero_add, Nat.reduceAdd]
          obtain ⟨hB, S', L', hD', hv', hu⟩ := hB
          obtain ⟨e7, A5, c5, S1, L1, e12, hH, hR⟩ := hd
          have hD3 : Both n0 W (fun k => S2 k ∨ Blk L' k) p2 L' z M' := hD'.less (fun k hk => hk.elim (hu k) fun h => (hD'.A.pcs.lt h).2) (fun k hk => .inr hk) (fun k hk => .inl (HD9.out.B.pcs.lt hk).2) (.inl HpS.out) (.inl HzS.out)
          have hR3 : SlR RRec W (Out (fun k => S2 k ∨ Blk L' k) W) A5 rs.length c5 rs := hR.mono fun k hk => ⟨hk.1, fun h => hk.2 (h.elim (hH.up k) fun h => (hH.A.pcs.lt (setIs_blk hD'.A hH.A h)).2)⟩
          rw [e7, e12]
          have hcc := refSetApply_at hD3.B hD3.lt (by rw [← viewP_len, HV.out.2]; have := HF.out.few; omega) hR3 (FarV.run (L := M') (by rw [HV.out.2]; exact HF.out) (by have := Hlr.out; omega)) (by rw [Hes.out]; exact Hsm.out) (fun x hx => HOk.out (x.d, x.D) (by rw [← HV.out.2]; exact List.mem_map.2 ⟨x, hx, rfl⟩))
          rw [Hes.out] at hcc
          have HBB := hid hB; have HII := hid hD3; have Hvp := hid hv'
          clear hR hR3 hD3 hB hD' hv' hu hH e7 e12
          go_simp
          refine hcc.mono ?_
          clear hcc
          rintro x w' hD
          obtain ⟨rfl, S'', M'', hD'', hv'', -, -⟩ := HII.out.didB hD
          rw [HV.out.2] at hv'' ⊢
          have hpl := Nat.le_trans Hn0.out (HII.out.lo _ HII.out.B.pIn)
          have HB2 := hid (show Ext w w' ∧ w9.heap.size ≤ w'.heap.size from ⟨HBB.out.1.trans (hD.kept.below hpl hpl HBB.out.1.size), Nat.le_trans HBB.out.2 hD.kept.size⟩)
          have HI2 := hid (show ∃ S L M, Both n0 w' S p2 L z M ∧ viewP L = afterV es V ∧ viewP M = afterV es V from ⟨S'', L', M'', hD'', Hvp.out, hv''⟩)
          have HKz := hid hD.kept
          clear hD hD'' hv'' hpl
          go_simp
          exact ⟨⟨⟨HB2.out, HI2.out⟩, HKz.out⟩, rfl⟩
        case pls14 =>
          refine @stepPg_quiet _ _ _ _ _ _ _ _ _ _ _ _ _ _ (by decide) (by decide) ?_
          intro v W hE hd; simp only [Region.wanted, ↓reduceIte]; (try simp [deps, waitsOn, Region.binds, knowing, isV, ownsV, anyV] at hd); simp only [putAll, List.take_succ_cons, List.take_zero, List.drop_succ_cons, List.drop_zero, Act.put, List.setIfInBounds_toArray, List.set_cons_zero, List.set_cons_succ, Nat.zero_add, Nat.reduceAdd]
          obtain ⟨⟨e6, -⟩, e13⟩ := hd
          rw [e6, e13]
          clear e6 e13
          go_simp
          exact ⟨Below.refl _ _, rfl⟩
      · intro i w1 w2 w3 hT h
        match i, h with
        | 0, h => exact h
        | 1, h => exact h
        | 2, h => exact h
        | 3, h => exact h
        | 4, h => exact h
        | 5, h =>
          exact rsX_t HzS.out hT h
        | 6, h =>
          exact hfX_t hT h
        | 7, h => exact h
        | 8, h => exact h
        | 9, h => exact h
        | 10, h => exact h
        | 11, h => exact h
        | 12, h =>
          exact rcX_t hT h
        | 13, h => exact h
        | 14, h => exact h
        | _ + 15, h => exact h
      · intro i w1 w2 w3 hip hT h
        match i, hip, h with
        | 0, hip, h => exact h
        | 1, hip, h => exact h
        | 2, hip, h => exact h
        | 3, hip, h => exact h
        | 4, hip, h => exact h
        | 5, hip, h =>
          exact rsX_t HpS.out hT.1 h
        | 6, hip, h =>
          exact absurd rfl hip
        | 7, hip, h => exact h
        | 8, hip, h => exact h
        | 9, hip, h => exact h
        | 10, hip, h => exact h
        | 11, hip, h => exact h
        | 12, hip, h =>
          exact rcX_p HpS.out hT h
        | 13, hip, h => exact h
        | 14, hip, h => exact h
        | _ + 15, hip, h => exact h
      · rintro v W9 hB hI ⟨-, -, -, -, -, -, -, -, -, -, -, -, -, -, e14, -⟩
        have e14 := (show v 14 = _ from e14)
        simp only [putAll, List.take_succ_cons, List.take_zero, List.drop_succ_cons, List.drop_zero, Act.put, List.setIfInBounds_toArray, List.set_cons_zero, List.set_cons_succ, Nat.zero_add, Nat.reduceAdd]
        obtain ⟨S3, L3, M3, hD3, hv3, hv4⟩ := hI
        have HD3 := hid hD3; have HV3 := hid (And.intro hv3 hv4); have HEf := hid hB.1
        have HF3 := hid (show FarV (1125899906842624 + 1000 * ((30 * (k + 1) : Nat) : Int)) (400 + 6 * (30 * (k + 1))) (400 - 30 * (k + 1)) (afterV es V) from by
          have h1 := HF.out.after (es := es) (by rw [← Hes.out] ; first | exact Hmr.out | (rw [Hes.out]; exact Hmr.out)) (m := 30) (by have := Hlr.out; omega) (by omega)
          have e1 : (1125899906842624 + 1000 * ((30 * k : Nat) : Int) + 1000 * ((30 : Nat) : Int)) = 1125899906842624 + 1000 * ((30 * (k + 1) : Nat) : Int) := by omega
          have e2 : 400 + 6 * (30 * k) + 6 * 30 = 400 + 6 * (30 * (k + 1)) := by omega
          have e3 : 400 - 30 * k - 30 = 400 - 30 * (k + 1) := by omega
          rw [e1, e2, e3] at h1
          exact h1)
        have HOk3 := hid (HOk.out.after es)
        rw [e14]
        clear hD3 hv3 hv4 hB e14
        go_wp2_with fail
        go_roundw
        case rel => exact ⟨k + 1, p2, _, _, _, _, by omega, by omega, by go_num, rfl, HD3, HV3, HF3, HOk3, HEf⟩
        case measure => simp [intOf]; omega
    · have hal := alike_at HD.out (HV.out.1.trans HV.out.2.symm) (by rw [HV.out.2]; exact HF.out.put (by omega))
      by_cases hkn : k < n1
      · have hlt1 : (k : Int) < (n1 : Int) := by omega
        have hlt6 : ¬ ((k : Int) < 6) := by omega
        go_wp2_with fail
        refine hal.mono ?_
        clear hal
        rintro e w7 ⟨rfl, hE⟩
        have HEf := hid (HE.out.trans' hE)
        clear hE
        go_wp2
        go_ret
        exact ⟨rfl, HEf.out⟩
      · have hlt1 : ¬ ((k : Int) < (n1 : Int)) := by omega
        go_wp2_with fail
        refine hal.mono ?_
        clear hal
        rintro e w7 ⟨rfl, hE⟩
        have HEf := hid (HE.out.trans' hE)
        clear hE
        go_wp2
        go_ret
        exact ⟨rfl, HEf.out⟩
end Go.Proofs.YtffidnimoodniaaGreat
