/- The law ProjParts. -/
import Derived.Test.YtffidnimoodniaaGreatPjShown
import Derived.Test.YtffidnimoodniaaGreatPja
namespace Go.Proofs.YtffidnimoodniaaGreat
open Go Go.RowKit
set_option linter.unusedSimpArgs false
set_option linter.unusedVariables false

set_option maxRecDepth 100000 in
set_option maxHeartbeats 4000000 in
theorem projParts_in (A : Option Addr) (n c : Nat) (ds : List DefV) (A1 : Option Addr) (n1 c1 : Nat) (l : List EvV) (A2 : Option Addr) (n2 c2 : Nat) (m : List EvV) (w : World) (hd : SlR RDef w (· < w.heap.size) A n c ds) (hl : SlR REv w (· < w.heap.size) A1 n1 c1 l) (hm : SlR REv w (· < w.heap.size) A2 n2 c2 m) :
    Calls Tryz.prog 4 #[.slice A n c, .slice A1 n1 c1, .slice A2 n2 c2] w fun e w' => e = .returned (.bool true) ∧ Below w.heap.size w w' := by
  have hnc := hd.2.1
  have hcm := hd.2.2.1
  have Hd := hid hd
  have Hl := hid hl
  have Hm := hid hm
  clear hd hl hm
  go_enter Tryz.func4, Tryz.ntmps4
  go_wp2_with fail
  -- the document's example; d is cut at six: from w on, world wc behind it
  refine (shown16_at w).mono ?_
  rintro e w1 ⟨rfl, hE⟩
  have HE1 := hid hE
  clear hE
  go_upto_if 18 with (fail)
  go_cut [0] (fun x wx => Hid (wx = w1) ∧ ∃ n' : Nat, n' ≤ 6 ∧ n' ≤ c ∧ x = .slice A n' c ∧ Hid (SlR RDef w1 (· < w1.heap.size) A n' c (ds.take 6)))
  case first =>
    by_cases h6 : 6 < n
    · have hlt : (6 : Int) < (n : Int) := by omega
      have Hd6 := hid (slR_take (Hd.out.grow HE1.out) 6 (by omega))
      go_wp2_with fail
      go_meet
      case rel => exact ⟨hid rfl, 6, Nat.le_refl _, by omega, rfl, Hd6⟩
    · have hlt : ¬ ((6 : Int) < (n : Int)) := by omega
      have Hd6 := hid (show SlR RDef w1 (· < w1.heap.size) A n c (ds.take 6) from by rw [List.take_of_length_le (by have := Hd.out.1; omega)]; exact Hd.out.grow HE1.out)
      go_wp2_with fail
      go_meet
      case rel => exact ⟨hid rfl, n, by omega, hnc, rfl, Hd6⟩
  case rest =>
  obtain ⟨hw, n6, hn6, hnc6, rfl, HD6⟩ := hcut
  obtain rfl := hw.out.symm
  clear hw Hd hnc
  -- two sets of the same definitions: HD, Hv, Hv2, HE3, Hdl, H0; or both are refused
  generalize ds.take 6 = ds' at *
  have hnew := projNew2_at HD6.out
  go_wp2_with fail
  refine hnew.mono ?_
  clear hnew
  rintro e w2 ⟨hE2, hans⟩
  have HE2 := hid (HE1.out.trans' hE2)
  have hs1 := hid HE1.out.size
  have hnew2 := projNew2_at (HD6.out.grow hE2)
  clear HD6
  rcases hans with ⟨h0, rfl⟩ | ⟨h0, p, L, S, rfl, hS, hv, hR, hSl, hb⟩
  · clear hE2
    go_wp2_with fail
    refine hnew2.mono ?_
    clear hnew2
    rintro e w3 ⟨hE3, hans⟩
    rcases hans with ⟨-, rfl⟩ | ⟨h, -⟩
    rotate_left
    · exact absurd h h0
    have HE3 := hid (HE2.out.trans' hE3)
    clear hE3
    generalize defsE ds' = me at *
    have hm1 : (me == 0) = false := by simpa using h0
    have hm2 : (me != 0) = true := by simpa using h0
    go_wp2
    go_ret
    exact ⟨rfl, HE3.out⟩
  obtain ⟨hlen, hmay⟩ := defsE_zero h0
  have HM2 := hid (And.intro hS (And.intro hv (And.intro hR (And.intro hSl hb))))
  have Hdl := hid hlen
  have H0 := hid h0
  clear hS hv hR hSl hb hE2 hlen hmay h0
  go_wp2_with fail
  refine hnew2.mono ?_
  clear hnew2
  rintro e w3 ⟨hE3, hans⟩
  rcases hans with ⟨h, -⟩ | ⟨-, q, M, S2, rfl, hS2, hv2, hR2, hSl2, hb2⟩
  · exact absurd H0.out h
  obtain ⟨hS, hv, hR, hSl, hb⟩ := HM2.out
  have HD := hid (duo_new (n := w1.heap.size) hS hR hb hE3 hS2 hR2 hb2 hSl2)
  have Hv := hid hv; have Hv2 := hid hv2
  have HE3 := hid (HE2.out.trans' hE3)
  clear hS hv hR hSl hb hS2 hv2 hR2 hSl2 hb2 hE3 HM2
  generalize hSS : (fun k => (k = p ∨ Blk L k) ∨ (k = q ∨ Blk M k)) = SS at *
  clear hSS
  have HfA := hid (show FarV 1125899906842624 0 400 (viewP L) by rw [Hv.out]; exact farV_new Hdl.out)
  have HfB := hid (show FarV 1125899906842624 0 400 (viewP M) by rw [Hv2.out]; exact farV_new Hdl.out)
  have Hvv := hid (show viewP L = viewP M from Hv.out.trans Hv2.out.symm)
  clear Hv Hv2
  -- both rows, one behind the other
  have hE0 := ext_alloc w3 (.cells #[] 62)
  have HO0 := hid (OwnK.empty (R := RRec) (K := (· < w.heap.size)) (e := 62) w3 w3.heap.size (Nat.le_refl _))
  have HEa := hid (HE3.out.trans' hE0)
  have HEs := hid hE0
  have hs3 := HE3.out.size
  clear hE0
  go_wp2_with fail
  generalize w3.alloc (.cells #[] 62) = wa at *
  refine (recs_at (K := (· < w.heap.size)) (Hl.out.ext fun k hk => HEa.out.block k hk) (fun k hk => Nat.lt_of_lt_of_le hk HEa.out.size)).mono ?_
  rintro e wb ⟨v, rfl, hO, hE4⟩
  have HOb := hid (HO0.out.ext hE4 fun k hk => Nat.lt_of_lt_of_le hk HEa.out.size)
  obtain ⟨Ab, cb, csb, rfl, -, -, hRb⟩ := hO.read
  have HRb := hid (show ∃ cs, Rows RRec wb (· < w.heap.size) (recsF 30 l) cs ∧ RV wb Ab cs from ⟨csb, hRb⟩)
  have HEb := hid (HEa.out.trans' hE4)
  have HSb := hid (HEs.out.trans' hE4)
  have HK := hid (show ∀ k, k < w.heap.size → k < w3.heap.size from fun k hk => by omega)
  have Hlb := hid (recsF_len 30 l)
  clear hO hRb hE4 HO0
  have hsb := HSb.out.size
  generalize hrl : recsF 30 l = rl at *
  have Hrl := hid hrl
  clear hrl
  obtain ⟨nl, hnl⟩ : ∃ z, z = rl.length := ⟨_, rfl⟩
  have Hnl := hid hnl
  rw [← hnl]
  have hnl30 : nl ≤ 30 := by have := Hlb.out; omega
  clear hnl
  go_wp2_with (at_builtin; refine wpList_appK (w0 := w3) (R := RRec) (K := (· < w.heap.size)) (xs := []) (base := w3.heap.size) recinfo rfl (.tmp 48) (.tmp 50) rfl rfl HOb HK HSb hsb Ab nl cb rl rfl Hnl HRb (by simp; omega) (by simp; omega) ?_; intro v2 wc2 HOc HSc _)
  obtain ⟨Ac, cc, csc, rfl, -, -, -⟩ := HOc.out.read
  have HEc := hid (HE3.out.trans' HSc.out)
  have hsc := HSc.out.size
  clear HOb HRb HEb HSb
  go_wp2_with fail
  refine (recs_at (K := (· < w.heap.size)) (Hm.out.ext fun k hk => HEc.out.block k hk) (fun k hk => Nat.lt_of_lt_of_le hk HEc.out.size)).mono ?_
  rintro e wd ⟨v, rfl, hO, hE4⟩
  have HOd := hid (HOc.out.ext hE4 fun k hk => Nat.lt_of_lt_of_le hk HEc.out.size)
  obtain ⟨Ad, cd, csd, rfl, -, -, hRd⟩ := hO.read
  have HRd := hid (show ∃ cs, Rows RRec wd (· < w.heap.size) (recsF 30 m) cs ∧ RV wd Ad cs from ⟨csd, hRd⟩)
  have HSd := hid (Ext.trans' HSc.out hE4)
  have Hld := hid (recsF_len 30 m)
  clear hO hRd hE4 HOc
  have hsd := HSd.out.size
  generalize hrm : recsF 30 m = rm at *
  have Hrm := hid hrm
  clear hrm
  obtain ⟨nm, hnm⟩ : ∃ z, z = rm.length := ⟨_, rfl⟩
  have Hnm := hid hnm
  rw [← hnm]
  have hnm30 : nm ≤ 30 := by have := Hld.out; omega
  have hnil : ([] ++ rl : List (Int × Int × EvV)).length = nl := by rw [List.nil_append]; exact Hnl.out.symm
  clear hnm
  go_wp2_with (at_builtin; refine wpList_appK (w0 := w3) (R := RRec) (K := (· < w.heap.size)) (xs := [] ++ rl) (base := w3.heap.size) recinfo rfl (.tmp 51) (.tmp 53) rfl rfl HOd HK HSd hsd Ad nm cd rm rfl Hnm HRd (by omega) (by omega) ?_; intro v3 we HOe HSe _)
  obtain ⟨Ae, ce, rfl, hRF⟩ := ownK_out (S := SS) HOe.out (fun k hk => ⟨Nat.lt_of_lt_of_le hk (Nat.le_trans hs3 HSe.out.size), fun h => by have := HD.out.lo k h; have := hs1.out; omega⟩) (fun k hk => HD.out.lt k hk)
  have HDe := hid (HD.out.ext HSe.out)
  have HEe := hid (HE3.out.trans' HSe.out)
  have Hes := hid (show evsOf ([] ++ rl ++ rm) = evsOf (recsF 30 l) ++ evsOf (recsF 30 m) by rw [Hrl.out, Hrm.out]; unfold evsOf; rw [List.nil_append, List.map_append])
  have hll : ([] ++ rl ++ rm : List (Int × Int × EvV)).length ≤ 60 := by rw [List.length_append, hnil]; have := Hnm.out; omega
  have hcc := setApply_at HDe.out.A HDe.out.lt (by have := HfA.out.many; omega) hRF (HfA.out.run (by omega)) (by
    rw [Hes.out]
    exact fun e he => (List.mem_append.1 he).elim (recs_small l e) (recs_small m e))
  rw [Hes.out] at hcc
  clear hRF HOd HRd HSd HOe HSe hll hnil hnl30 hnm30 Hes Hrl Hrm Hnl Hnm Hlb Hld HEc hsb hsc hsd hs3 HK HSc
  generalize ([] ++ rl ++ rm : List (Int × Int × EvV)).length = ne at *
  -- Apply: hcc its contract
  go_wp2_with fail
  refine hcc.mono ?_
  clear hcc
  rintro e w5 hD
  obtain ⟨g, rfl, S5, L5, hD5, hg⟩ := HDe.out.did hD
  have hpl := Nat.le_trans hs1.out (HDe.out.lo _ HDe.out.A.pIn)
  have HE5 := hid (show Ext w w5 from HEe.out.trans (hD.kept.below hpl hpl HEe.out.size))
  have Hg := hid hg
  have HD5 := hid hD5
  clear hD hg hD5 hpl
  go_wp2_with fail
  -- recs(..): hRF: the row that came, aside of the sets
  refine (recs_at (K := (· < w.heap.size)) (Hl.out.ext fun k hk => HE5.out.block k hk) (fun k hk => Nat.lt_of_lt_of_le hk HE5.out.size)).mono ?_
  rintro e w6 ⟨v, rfl, hO, hE4⟩
  obtain ⟨AF, cF, rfl, hRF⟩ := ownK_out (S := S5) hO (fun k hk => ⟨Nat.lt_of_lt_of_le hk (Nat.le_trans HE5.out.size hE4.size), fun h => by have := HD5.out.lo k h; have := hs1.out; omega⟩) (fun k hk => HD5.out.lt k hk)
  have HD6 := hid (HD5.out.ext hE4)
  have HE6 := hid (HE5.out.trans' hE4)
  clear hO hE4
  have hcc := setApply_at HD6.out.B HD6.out.lt (by have := HfB.out.many; omega) hRF (HfB.out.run (Nat.le_trans (recsF_len 30 l) (by decide))) (recs_small l)
  clear hRF
  generalize (recsF 30 l).length = nF at *
  -- Apply: hcc its contract
  go_wp2_with fail
  refine hcc.mono ?_
  clear hcc
  rintro e w7 hD
  obtain ⟨h, rfl, S7, M7, hD5, hg⟩ := HD6.out.didB hD
  have hpl := Nat.le_trans hs1.out (HD6.out.lo _ HD6.out.B.pIn)
  have HE7 := hid (show Ext w w7 from HE6.out.trans (hD.kept.below hpl hpl HE6.out.size))
  have Hh := hid hg
  have HD7 := hid hD5
  clear hD hg hD5 hpl
  have HfC := hid (show FarV (1125899906842624 + 1000 * (30 : Nat)) (0 + 6 * 30) 370 (viewP M7) by
    rcases Hh.out with ⟨-, -, hv⟩ | ⟨-, -, rfl⟩
    · rw [hv]; exact HfB.out.next (recs_may l) (recs_len l) (by decide)
    · have := HfB.out
      exact ⟨this.few, fun x hx => (this.key x hx).le (by decide), fun x hx => (this.fit x hx).le (by decide), by decide, by decide, by decide⟩)
  go_wp2_with fail
  -- recs(..): hRF: the row that came, aside of the sets
  refine (recs_at (K := (· < w.heap.size)) (Hm.out.ext fun k hk => HE7.out.block k hk) (fun k hk => Nat.lt_of_lt_of_le hk HE7.out.size)).mono ?_
  rintro e w8 ⟨v, rfl, hO, hE4⟩
  obtain ⟨AG, cG, rfl, hRF⟩ := ownK_out (S := S7) hO (fun k hk => ⟨Nat.lt_of_lt_of_le hk (Nat.le_trans HE7.out.size hE4.size), fun h => by have := HD7.out.lo k h; have := hs1.out; omega⟩) (fun k hk => HD7.out.lt k hk)
  have HD8 := hid (HD7.out.ext hE4)
  have HE8 := hid (HE7.out.trans' hE4)
  clear hO hE4
  have hcc := setApply_at HD8.out.B HD8.out.lt (by have := HfC.out.many; omega) hRF (HfC.out.run (Nat.le_trans (recsF_len 30 m) (by decide))) (recs_small m)
  clear hRF
  generalize (recsF 30 m).length = nG at *
  -- Apply: hcc its contract
  go_wp2_with fail
  refine hcc.mono ?_
  clear hcc
  rintro e w9 hD
  obtain ⟨i, rfl, S9, M9, hD5, hg⟩ := HD8.out.didB hD
  have hpl := Nat.le_trans hs1.out (HD8.out.lo _ HD8.out.B.pIn)
  have HE9 := hid (show Ext w w9 from HE8.out.trans (hD.kept.below hpl hpl HE8.out.size))
  have Hi := hid hg
  have HD9 := hid hD5
  clear hD hg hD5 hpl
  rcases Hg.out with ⟨hok, rfl, hv5⟩ | ⟨-, rfl, -⟩
  rotate_left
  · rcases Hh.out with ⟨-, rfl, -⟩ | ⟨-, rfl, -⟩
    · clear Hg Hh Hi
      go_wp2
      go_ret
      exact ⟨rfl, HE9.out⟩
    · clear Hg Hh Hi
      go_wp2
      go_ret
      exact ⟨rfl, HE9.out⟩
  rw [okAll_append, Bool.and_eq_true, Hvv.out] at hok
  rcases Hh.out with ⟨-, rfl, hv7⟩ | ⟨hno, -, -⟩
  rotate_left
  · rw [hok.1] at hno; cases hno
  rcases Hi.out with ⟨-, rfl, hv9⟩ | ⟨hno, -, -⟩
  rotate_left
  · rw [hv7, hok.2] at hno; cases hno
  rw [runAll_append, Hvv.out] at hv5
  rw [hv7] at hv9
  have Hsame := hid (show viewP L5 = viewP M9 from hv5.trans hv9.symm)
  have Hfar := hid (show FarV _ _ _ (viewP M9) by rw [hv9, ← hv7]; exact HfC.out.next (recs_may m) (recs_len m) (by decide : 30 ≤ 370))
  have HpA := hid (show PutFit (viewP L5) by rw [Hsame.out]; exact Hfar.out.put (by decide))
  have HpB := hid (show PutFit (viewP M9) from Hfar.out.put (by decide))
  clear hok hv5 hv7 hv9 Hg Hh Hi Hfar
  go_wp2_with fail
  apply wp_drawn [isV _, isV _, isV _, obX w.heap.size (setB (viewP M9)), isV (.string (str (setB (viewP M9)))), isV _, obX w.heap.size (setB (viewP M9)), isV (.string (str (setB (viewP M9)))), isV (.bool true), isV _, isV _] (by kernel_rfl)
  · kernel_rfl
  · refine ⟨?pps0, ?pps1, ?pps2, ?pps3, ?pps4, ?pps5, ?pps6, ?pps7, ?pps8, ?pps9, ?pps10, trivial⟩
    case pps0 =>
      intro v W hE hd; simp only [Region.wanted, ↓reduceIte]; (try simp [deps, waitsOn, Region.binds, knowing, isV, ownsV, anyV] at hd); simp only [putAll, List.take_succ_cons, List.take_zero, List.drop_succ_cons, List.drop_zero, Act.put, List.setIfInBounds_toArray, List.set_cons_zero, List.set_cons_succ, Nat.zero_add, Nat.reduceAdd]; go_simp; exact ⟨Below.refl _ _, rfl⟩
    case pps1 =>
      intro v W hE hd; simp only [Region.wanted, ↓reduceIte]; (try simp [deps, waitsOn, Region.binds, knowing, isV, ownsV, anyV] at hd); simp only [putAll, List.take_succ_cons, List.take_zero, List.drop_succ_cons, List.drop_zero, Act.put, List.setIfInBounds_toArray, List.set_cons_zero, List.set_cons_succ, Nat.zero_add, Nat.reduceAdd]; go_simp; exact ⟨Below.refl _ _, rfl⟩
    case pps2 =>
      intro v W hE hd; (try simp [deps, waitsOn, Region.binds, knowing, isV, ownsV, anyV] at hd); simp only [putAll, List.take_succ_cons, List.take_zero, List.drop_succ_cons, List.drop_zero, Act.put, List.setIfInBounds_toArray, List.set_cons_zero, List.set_cons_succ, Nat.zero_add, Nat.reduceAdd]; rw [if_pos (by simp [Region.wanted, yielded, hd])]; go_simp; exact ⟨Below.refl _ _, rfl⟩
    case pps3 =>
      intro v W hE hd; (try simp [deps, waitsOn, Region.binds, knowing, isV, ownsV, anyV] at hd); simp only [putAll, List.take_succ_cons, List.take_zero, List.drop_succ_cons, List.drop_zero, Act.put, List.setIfInBounds_toArray, List.set_cons_zero, List.set_cons_succ, Nat.zero_add, Nat.reduceAdd]; rw [if_pos (by simp [Region.wanted, yielded, hd])]
      have hcc := setPut_at (HD9.out.A.ext hE) HpA.out
      rw [Hsame.out] at hcc
      go_simp
      refine hcc.mono ?_
      clear hcc
      rintro e w' ⟨hE2, v', rfl, hO⟩
      have HOo := hid hO; have HEe := hid hE2
      clear hO hE2
      go_simp
      exact ⟨HEe.out, OB.base HOo.out (by have := hE.size; have := HE9.out.size; omega)⟩
    case pps4 =>
      intro v W hE hd; (try simp [deps, waitsOn, Region.binds, knowing, isV, ownsV, anyV] at hd); simp only [putAll, List.take_succ_cons, List.take_zero, List.drop_succ_cons, List.drop_zero, Act.put, List.setIfInBounds_toArray, List.set_cons_zero, List.set_cons_succ, Nat.zero_add, Nat.reduceAdd]; rw [if_pos (by simp [Region.wanted, yielded, hd])]
      have h3 : OB W w.heap.size (v 3) (setB (viewP M9)) := hd.1
      obtain ⟨A3, n3, c3, e3, rfl, -, hr3⟩ := OB.rd h3
      have hs := run_str hr3 c3
      rw [e3]
      clear h3 hr3
      go_simp
      exact ⟨Below.refl _ _, rfl⟩
    case pps5 =>
      intro v W hE hd; (try simp [deps, waitsOn, Region.binds, knowing, isV, ownsV, anyV] at hd); simp only [putAll, List.take_succ_cons, List.take_zero, List.drop_succ_cons, List.drop_zero, Act.put, List.setIfInBounds_toArray, List.set_cons_zero, List.set_cons_succ, Nat.zero_add, Nat.reduceAdd]; rw [if_pos (by simp [Region.wanted, yielded, hd])]; go_simp; exact ⟨Below.refl _ _, rfl⟩
    case pps6 =>
      intro v W hE hd; (try simp [deps, waitsOn, Region.binds, knowing, isV, ownsV, anyV] at hd); simp only [putAll, List.take_succ_cons, List.take_zero, List.drop_succ_cons, List.drop_zero, Act.put, List.setIfInBounds_toArray, List.set_cons_zero, List.set_cons_succ, Nat.zero_add, Nat.reduceAdd]; rw [if_pos (by simp [Region.wanted, yielded, hd])]
      have hcc := setPut_at (HD9.out.B.ext hE) HpB.out
      go_simp
      refine hcc.mono ?_
      clear hcc
      rintro e w' ⟨hE2, v', rfl, hO⟩
      have HOo := hid hO; have HEe := hid hE2
      clear hO hE2
      go_simp
      exact ⟨HEe.out, OB.base HOo.out (by have := hE.size; have := HE9.out.size; omega)⟩
    case pps7 =>
      intro v W hE hd; (try simp [deps, waitsOn, Region.binds, knowing, isV, ownsV, anyV] at hd); simp only [putAll, List.take_succ_cons, List.take_zero, List.drop_succ_cons, List.drop_zero, Act.put, List.setIfInBounds_toArray, List.set_cons_zero, List.set_cons_succ, Nat.zero_add, Nat.reduceAdd]; rw [if_pos (by simp [Region.wanted, yielded, hd])]
      have h3 : OB W w.heap.size (v 6) (setB (viewP M9)) := hd.1
      obtain ⟨A3, n3, c3, e3, rfl, -, hr3⟩ := OB.rd h3
      have hs := run_str hr3 c3
      rw [e3]
      clear h3 hr3
      go_simp
      exact ⟨Below.refl _ _, rfl⟩
    case pps8 =>
      intro v W hE hd; (try simp [deps, waitsOn, Region.binds, knowing, isV, ownsV, anyV] at hd); simp only [putAll, List.take_succ_cons, List.take_zero, List.drop_succ_cons, List.drop_zero, Act.put, List.setIfInBounds_toArray, List.set_cons_zero, List.set_cons_succ, Nat.zero_add, Nat.reduceAdd]; rw [if_pos (by simp [Region.wanted, yielded, hd])]
      go_simp
      exact ⟨Below.refl _ _, rfl⟩
    case pps9 =>
      intro v W hE hd; simp only [Region.wanted, ↓reduceIte]; (try simp [deps, waitsOn, Region.binds, knowing, isV, ownsV, anyV] at hd); simp only [putAll, List.take_succ_cons, List.take_zero, List.drop_succ_cons, List.drop_zero, Act.put, List.setIfInBounds_toArray, List.set_cons_zero, List.set_cons_succ, Nat.zero_add, Nat.reduceAdd]; go_simp; exact ⟨Below.refl _ _, rfl⟩
    case pps10 =>
      intro v W hE hd; simp only [Region.wanted, ↓reduceIte]; (try simp [deps, waitsOn, Region.binds, knowing, isV, ownsV, anyV] at hd); simp only [putAll, List.take_succ_cons, List.take_zero, List.drop_succ_cons, List.drop_zero, Act.put, List.setIfInBounds_toArray, List.set_cons_zero, List.set_cons_succ, Nat.zero_add, Nat.reduceAdd]; go_simp; exact ⟨Below.refl _ _, rfl⟩
  · rintro v W9 hE ⟨-, -, -, -, -, -, -, -, -, -, e10, -⟩
    have e10 := (show v 10 = _ from e10)
    simp only [putAll, List.take_succ_cons, List.take_zero, List.drop_succ_cons, List.drop_zero, Act.put, List.setIfInBounds_toArray, List.set_cons_zero, List.set_cons_succ, Nat.zero_add, Nat.reduceAdd]
    have HEf := hid (HE9.out.trans' hE)
    rw [e10]
    clear hE e10
    go_wp2
    go_ret
    exact ⟨rfl, HEf.out⟩
end Go.Proofs.YtffidnimoodniaaGreat
