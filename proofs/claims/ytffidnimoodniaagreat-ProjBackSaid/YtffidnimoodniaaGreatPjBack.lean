/- The law ProjBack. -/
import Derived.Test.YtffidnimoodniaaGreatPjShown
import Derived.Test.YtffidnimoodniaaGreatLd
namespace Go.Proofs.YtffidnimoodniaaGreat
open Go Go.RowKit
set_option linter.unusedSimpArgs false
set_option linter.unusedVariables false

/-- What new states come to may be loaded. -/
theorem fresh_ok {w : World} {S : Nat → Prop} {p : Nat} {L : List Pc} (h : SetIs w S p L) {ds : List DefV} {es : List EvV} (hes : ∀ e ∈ es, SmallE e) (hl : es.length ≤ 1000) (hv : viewP L = runAll es (ds.map fun d => (d, []))) : ∀ x ∈ viewP L, okE x.1 x.2 = true := by
  intro x hx
  have h1 := hx
  rw [hv] at h1
  unfold runAll at h1
  rw [List.map_map] at h1
  obtain ⟨d, -, rfl⟩ := List.mem_map.1 h1
  unfold viewP at hx
  obtain ⟨y, hy, e⟩ := List.mem_map.1 hx
  simp only [Function.comp_apply, Prod.mk.injEq] at e
  have hu := (h.pcs.each y hy).map.up
  rw [e.2] at hu
  exact (okD_fold es hes hl).1.loads hu
theorem FarV.size {B : Int} {N n : Nat} {V : List (DefV × Ents)} (h : FarV B N n V) (hN : N ≤ 20000) : (setB V).length ≤ (2031 * N + 10) * 4 := by
  have hp := h.put hN
  have h1 : ∀ x ∈ V, (stB x.2).length ≤ 2031 * N + 10 := fun x hx => by
    have hk := h.key x hx
    have hr := hp.row x hx
    have h2 := flat_le (f := entB) (N := 2031) x.2 fun p hp => entB_len (hr.key p hp) (hr.num p hp)
    have h3 := encB_len (x := (x.2.length : Int)) (by have := hr.len; omega)
    have h4 : 2031 * x.2.length ≤ 2031 * N := Nat.mul_le_mul_left _ hk.len
    unfold stB rowB
    rw [List.length_append]; omega
  have h2 := flat_le (f := fun x : DefV × Ents => stB x.2) (N := 2031 * N + 10) V h1
  have h3 : (2031 * N + 10) * V.length ≤ (2031 * N + 10) * 4 := Nat.mul_le_mul_left _ h.few
  unfold setB
  omega
set_option maxRecDepth 100000 in
set_option maxHeartbeats 4000000 in
theorem projBack_in (A : Option Addr) (n c : Nat) (ds : List DefV) (A1 : Option Addr) (n1 c1 : Nat) (l : List EvV) (A2 : Option Addr) (n2 c2 : Nat) (m : List EvV) (w : World) (hd : SlR RDef w (· < w.heap.size) A n c ds) (hl : SlR REv w (· < w.heap.size) A1 n1 c1 l) (hm : SlR REv w (· < w.heap.size) A2 n2 c2 m) :
    Calls Tryz.prog 6 #[.slice A n c, .slice A1 n1 c1, .slice A2 n2 c2] w fun e w' => e = .returned (.bool true) ∧ Below w.heap.size w w' := by
  have hnc := hd.2.1
  have hcm := hd.2.2.1
  have Hd := hid hd
  have Hl := hid hl
  have Hm := hid hm
  clear hd hl hm
  go_enter Tryz.func6, Tryz.ntmps6
  go_wp2_with fail
  -- the document's example; d is cut at six: from w on, world wc behind it
  refine (shown16_at w).mono ?_
  rintro e w1 ⟨rfl, hE⟩
  have HE1 := hid hE
  clear hE
  go_upto_if 25 with (fail)
  go_cut [0] (fun x wx => Hid (wx = w1) ∧ ∃ n' : Nat, n' ≤ 6 ∧ n' ≤ c ∧ x = .slice A n' c ∧ Hid (SlR RDef w1 (· < w1.heap.size) A n' c (ds.take 6)))
  case first =>
    by_cases h6 : 6 < n
    · have hlt : (6 : Int) < (n : Int) := by omega
      have Hd6 := hid (slR_take (Hd.out.grow HE1.out) 6 (by omega))
      go_wp2_with fail
      go_meet
      case rel => exact ⟨hid rfl, 6, Nat.le_refl _, by omega, rfl, Hd6⟩
    · have hlt : ¬ ((6 : Int) < (n : Int)) := by omega
      have Hd6 := hid (show SlR RDef w1 (· < w1.heap.size) A n c (ds.take 6) from by rw [List.take_of_length_le (by have := Hd.out.1; omega)]; exact Hd.out.grow HE1.out)
      go_wp2_with fail
      go_meet
      case rel => exact ⟨hid rfl, n, by omega, hnc, rfl, Hd6⟩
  case rest =>
  obtain ⟨hw, n6, hn6, hnc6, rfl, HD6⟩ := hcut
  obtain rfl := hw.out.symm
  clear hw Hd hnc
  -- two sets of the same definitions: HD, Hv, Hv2, HE3, Hdl, H0; or both are refused
  generalize ds.take 6 = ds' at *
  have hnew := projNew2_at HD6.out
  go_wp2_with fail
  refine hnew.mono ?_
  clear hnew
  rintro e w2 ⟨hE2, hans⟩
  have HE2 := hid (HE1.out.trans' hE2)
  have hs1 := hid HE1.out.size
  have hnew2 := projNew2_at (HD6.out.grow hE2)
  clear HD6
  rcases hans with ⟨h0, rfl⟩ | ⟨h0, p, L, S, rfl, hS, hv, hR, hSl, hb⟩
  · clear hE2
    go_wp2_with fail
    refine hnew2.mono ?_
    clear hnew2
    rintro e w3 ⟨hE3, hans⟩
    rcases hans with ⟨-, rfl⟩ | ⟨h, -⟩
    rotate_left
    · exact absurd h h0
    have HE3 := hid (HE2.out.trans' hE3)
    clear hE3
    generalize defsE ds' = me at *
    have hm1 : (me == 0) = false := by simpa using h0
    have hm2 : (me != 0) = true := by simpa using h0
    go_wp2
    go_ret
    exact ⟨rfl, HE3.out⟩
  obtain ⟨hlen, hmay⟩ := defsE_zero h0
  have HM2 := hid (And.intro hS (And.intro hv (And.intro hR (And.intro hSl hb))))
  have Hdl := hid hlen
  have H0 := hid h0
  clear hS hv hR hSl hb hE2 hlen hmay h0
  go_wp2_with fail
  refine hnew2.mono ?_
  clear hnew2
  rintro e w3 ⟨hE3, hans⟩
  rcases hans with ⟨h, -⟩ | ⟨-, q, M, S2, rfl, hS2, hv2, hR2, hSl2, hb2⟩
  · exact absurd H0.out h
  obtain ⟨hS, hv, hR, hSl, hb⟩ := HM2.out
  have HD := hid (duo_new (n := w1.heap.size) hS hR hb hE3 hS2 hR2 hb2 hSl2)
  have Hv := hid hv; have Hv2 := hid hv2
  have HE3 := hid (HE2.out.trans' hE3)
  clear hS hv hR hSl hb hS2 hv2 hR2 hSl2 hb2 hE3 HM2
  generalize hSS : (fun k => (k = p ∨ Blk L k) ∨ (k = q ∨ Blk M k)) = SS at *
  clear hSS
  have HfA := hid (show FarV 1125899906842624 0 400 (viewP L) by rw [Hv.out]; exact farV_new Hdl.out)
  have Hms := hid (viewP_ds M ds' Hv2.out)
  go_wp2_with fail
  -- recs(..): hRF: the row that came, aside of the sets
  refine (recs_at (K := (· < w.heap.size)) (Hl.out.ext fun k hk => HE3.out.block k hk) (fun k hk => Nat.lt_of_lt_of_le hk HE3.out.size)).mono ?_
  rintro e w4 ⟨v, rfl, hO, hE4⟩
  obtain ⟨AF, cF, rfl, hRF⟩ := ownK_out (S := SS) hO (fun k hk => ⟨Nat.lt_of_lt_of_le hk (Nat.le_trans HE3.out.size hE4.size), fun h => by have := HD.out.lo k h; have := hs1.out; omega⟩) (fun k hk => HD.out.lt k hk)
  have HD4 := hid (HD.out.ext hE4)
  have HE4 := hid (HE3.out.trans' hE4)
  clear hO hE4
  have hcc := setApply_at HD4.out.A HD4.out.lt (by have := HfA.out.many; omega) hRF (HfA.out.run (Nat.le_trans (recsF_len 30 l) (by decide))) (recs_small l)
  clear hRF
  generalize (recsF 30 l).length = nF at *
  -- Apply: hcc its contract
  go_wp2_with fail
  refine hcc.mono ?_
  clear hcc
  rintro e w5 hD
  obtain ⟨g, rfl, S5, L5, hD5, hg⟩ := HD4.out.did hD
  have hpl := Nat.le_trans hs1.out (HD4.out.lo _ HD4.out.A.pIn)
  have HE5 := hid (show Ext w w5 from HE4.out.trans (hD.kept.below hpl hpl HE4.out.size))
  have Hg := hid hg
  have HD5 := hid hD5
  clear hD hg hD5 hpl
  have Hvs := hid (show ∃ es : List EvV, (∀ e ∈ es, mayEv e = 0) ∧ es.length ≤ 30 ∧ viewP L5 = runAll es (ds'.map fun d => (d, [])) from by
    rcases Hg.out with ⟨-, -, h1⟩ | ⟨-, -, rfl⟩
    · exact ⟨_, recs_may l, recs_len l, by rw [h1, Hv.out]⟩
    · exact ⟨[], fun e he => by simp at he, by decide, by rw [runAll_nil, Hv.out]⟩)
  have Hgg := hid (show g = 0 ∨ g = 4 from Hg.out.imp (fun h => h.2.1) fun h => h.2.1)
  clear Hg
  obtain ⟨es, hes, hel, hv5⟩ := Hvs.out
  have HfB := hid (show FarV (1125899906842624 + 1000 * (30 : Nat)) (0 + 6 * 30) 370 (viewP L5) by rw [hv5]; exact (farV_new Hdl.out).next hes hel (by decide))
  have Hok := hid (fresh_ok HD5.out.A (fun e he => small_may (hes e he)) (by omega) hv5)
  have Hfst := hid (show (viewP L5).map (·.1) = ds' from by
    rw [hv5]; unfold runAll
    rw [List.map_map, List.map_map]
    exact List.map_id _)
  clear Hvs hes hel hv5
  have HPA := hid (HfB.out.put (by decide))
  -- b takes what a tells
  have hcc := setPut_at HD5.out.A HPA.out
  go_wp2_with fail
  refine hcc.mono ?_
  clear hcc
  rintro e w6 ⟨hE, v, rfl, hO⟩
  obtain ⟨A6, c6, rfl, hR6⟩ := ob_out hO HD5.out.lt
  have HD6 := hid (HD5.out.ext hE)
  have HE6 := hid (HE5.out.trans' hE)
  have hlen := HfB.out.size (by decide)
  have hcc := setLoad_at HD6.out.B HD6.out.lt (by rw [← viewP_len, Hv2.out, List.length_map]; have := Hdl.out; omega) hR6 (by omega)
  clear hlen
  clear hE hO hR6
  generalize (setB (viewP L5)).length = n6' at *
  go_wp2_with fail
  refine hcc.mono ?_
  clear hcc
  rintro e w7 hD
  obtain ⟨h, rfl, S7, M7, hD7, hg⟩ := HD6.out.loadB hD
  have hpl := Nat.le_trans hs1.out (HD6.out.lo _ HD6.out.B.pIn)
  have HE7 := hid (show Ext w w7 from HE6.out.trans (hD.kept.below hpl hpl HE6.out.size))
  have HD7 := hid hD7
  rw [Hms.out, ← Hfst.out, ldAll_put HPA.out Hok.out] at hg
  clear hD hpl hD7
  rcases hg with ⟨Es, e1, rfl, e2⟩ | ⟨e1, -⟩
  rotate_left
  · cases e1
  injection e1 with e1
  rw [← e1, zip_unzip] at e2
  have Hvv := hid (show viewP M7 = viewP L5 from e2)
  clear e1 e2
  have HfC := hid (show FarV (1125899906842624 + 1000 * (30 : Nat)) (0 + 6 * 30) 370 (viewP M7) by rw [Hvv.out]; exact HfB.out)
  go_wp2_with fail
  -- recs(..): hRF: the row that came, aside of the sets
  refine (recs_at (K := (· < w.heap.size)) (Hm.out.ext fun k hk => HE7.out.block k hk) (fun k hk => Nat.lt_of_lt_of_le hk HE7.out.size)).mono ?_
  rintro e w8 ⟨v, rfl, hO, hE4⟩
  obtain ⟨AG, cG, rfl, hRF⟩ := ownK_out (S := S7) hO (fun k hk => ⟨Nat.lt_of_lt_of_le hk (Nat.le_trans HE7.out.size hE4.size), fun h => by have := HD7.out.lo k h; have := hs1.out; omega⟩) (fun k hk => HD7.out.lt k hk)
  have HD8 := hid (HD7.out.ext hE4)
  have HE8 := hid (HE7.out.trans' hE4)
  clear hO hE4
  have hcc := setApply_at HD8.out.A HD8.out.lt (by have := HfB.out.many; omega) hRF (HfB.out.run (Nat.le_trans (recsF_len 30 m) (by decide))) (recs_small m)
  clear hRF
  generalize (recsF 30 m).length = nG at *
  -- Apply: hcc its contract
  go_wp2_with fail
  refine hcc.mono ?_
  clear hcc
  rintro e w9 hD
  obtain ⟨i, rfl, S9, L9, hD5, hg⟩ := HD8.out.did hD
  have hpl := Nat.le_trans hs1.out (HD8.out.lo _ HD8.out.A.pIn)
  have HE9 := hid (show Ext w w9 from HE8.out.trans (hD.kept.below hpl hpl HE8.out.size))
  have Hi := hid hg
  have HD9 := hid hD5
  clear hD hg hD5 hpl
  go_wp2_with fail
  -- recs(..): hRF: the row that came, aside of the sets
  refine (recs_at (K := (· < w.heap.size)) (Hm.out.ext fun k hk => HE9.out.block k hk) (fun k hk => Nat.lt_of_lt_of_le hk HE9.out.size)).mono ?_
  rintro e w10 ⟨v, rfl, hO, hE4⟩
  obtain ⟨AH, cH, rfl, hRF⟩ := ownK_out (S := S9) hO (fun k hk => ⟨Nat.lt_of_lt_of_le hk (Nat.le_trans HE9.out.size hE4.size), fun h => by have := HD9.out.lo k h; have := hs1.out; omega⟩) (fun k hk => HD9.out.lt k hk)
  have HD10 := hid (HD9.out.ext hE4)
  have HE10 := hid (HE9.out.trans' hE4)
  clear hO hE4
  have hcc := setApply_at HD10.out.B HD10.out.lt (by have := HfC.out.many; omega) hRF (HfC.out.run (Nat.le_trans (recsF_len 30 m) (by decide))) (recs_small m)
  clear hRF
  generalize (recsF 30 m).length = nH at *
  -- Apply: hcc its contract
  go_wp2_with fail
  refine hcc.mono ?_
  clear hcc
  rintro e w11 hD
  obtain ⟨j, rfl, S11, M11, hD5, hg⟩ := HD10.out.didB hD
  have hpl := Nat.le_trans hs1.out (HD10.out.lo _ HD10.out.B.pIn)
  have HE11 := hid (show Ext w w11 from HE10.out.trans (hD.kept.below hpl hpl HE10.out.size))
  have Hj := hid hg
  have HD11 := hid hD5
  clear hD hg hD5 hpl
  have Hij := hid (show i = j ∧ viewP L9 = viewP M11 from by
    rcases Hi.out with ⟨a1, a2, a3⟩ | ⟨a1, a2, a3⟩ <;> rcases Hj.out with ⟨b1, b2, b3⟩ | ⟨b1, b2, b3⟩
    · exact ⟨by rw [a2, b2], by rw [a3, b3, Hvv.out]⟩
    · rw [Hvv.out, a1] at b1; cases b1
    · rw [Hvv.out, a1] at b1; cases b1
    · exact ⟨by rw [a2, b2], by rw [a3, b3, Hvv.out]⟩)
  have HfD := hid (show FarV (1125899906842624 + 1000 * (60 : Nat)) (0 + 6 * 60) 300 (viewP M11) from by
    rcases Hj.out with ⟨b1, b2, b3⟩ | ⟨b1, b2, rfl⟩
    · rw [b3]
      have h1 := HfC.out.next (recs_may m) (recs_len m) (by decide : 30 ≤ 370)
      exact ⟨h1.few, fun x hx => (h1.key x hx).le (by decide), fun x hx => (h1.fit x hx).le (by decide), by decide, by decide, by decide⟩
    · have h1 := HfC.out
      exact ⟨h1.few, fun x hx => (h1.key x hx).le (by decide), fun x hx => (h1.fit x hx).le (by decide), by decide, by decide, by decide⟩)
  obtain ⟨rfl, hvv9⟩ := Hij.out
  have Hv9 := hid hvv9
  clear Hij Hi Hj hvv9 HD10 HD9 HD8 HD7 HD6 HD5 HD4 HD
  have Hlm := hid (show L9.length = M11.length ∧ L9.length ≤ 4 from ⟨by rw [← viewP_len, Hv9.out, viewP_len], by rw [← viewP_len, Hv9.out]; exact HfD.out.few⟩)
  obtain ⟨nm, hnm⟩ : ∃ nm, nm = L9.length := ⟨_, rfl⟩
  have Hnm := hid hnm
  have hnm4 : nm ≤ 4 := by rw [hnm]; exact Hlm.out.2
  clear hnm
  go_wp2_with fail
  go_loopw [16] (fun i wr => ∃ k : Nat, k ≤ nm ∧ i = .int .i64 (k : Int) ∧ Hid (Ext w11 wr)) (fun i _ => nm - (intOf i).toNat)
  case atStart => exact ⟨0, by omega, rfl, hid (Below.refl _ _)⟩
  case round =>
    obtain ⟨k, hk, rfl, HE⟩ := hrel
    have HDr := hid (HD11.out.ext HE.out)
    have hcc := setMany_at HDr.out.A
    rw [← Hnm.out] at hcc
    go_wp2_with fail
    refine hcc.mono ?_
    clear hcc
    rintro e wx ⟨rfl, hw⟩
    obtain rfl : wr = wx := hw.symm
    clear hw
    by_cases hlt : k < nm
    · have hlt' : (k : Int) < (nm : Int) := by omega
      have hk9 : k < L9.length := by rw [← Hnm.out]; exact hlt
      have hk11 : k < M11.length := by rw [← Hlm.out.1]; exact hk9
      have hDD : L9[k].D = M11[k].D := by
        have h1 : (viewP L9)[k]'(by rw [viewP_len]; exact hk9) = (viewP M11)[k]'(by rw [viewP_len]; exact hk11) := by simp only [Hv9.out]
        unfold viewP at h1
        simp only [List.getElem_map, Prod.mk.injEq] at h1
        exact h1.2
      have hDl : M11[k].D.length < 1000000 := by
        have h1 := (HfD.out.key (M11[k].d, M11[k].D) (List.mem_map.2 ⟨_, List.getElem_mem hk11, rfl⟩)).len
        dsimp only at h1
        omega
      have hcc := setEntries_at HDr.out.A k hk9 (by have := Hlm.out; omega) (by rw [hDD]; exact hDl)
      rw [hDD] at hcc
      have HB := hid (show ∀ w8, Ext wr w8 → Calls Tryz.prog 12 #[.pointer (some ⟨q, 0, none⟩), .int .i64 (k : Int)] w8 fun e w' => ToldIs w8 M11[k].D e w' from fun w8 hE => setEntries_at (HDr.out.B.ext hE) k hk11 (by have := Hlm.out; omega) hDl)
      clear hDD hDl
      generalize M11[k].D = D at *
      clear hk9 hk11
      go_wp2_with fail
      refine hcc.mono ?_
      clear hcc
      rintro e w12 ⟨hE8, Aa, ca, rfl, hRa⟩
      have HRa := hid hRa; have HE8 := hid (HE.out.trans' hE8)
      have hcc := HB.out w12 hE8
      clear hE8 hRa HB
      generalize hdl : D.length = dl at *
      go_wp2_with fail
      refine hcc.mono ?_
      clear hcc
      rintro e w13 ⟨hE9, Ab, cb, rfl, hRb⟩
      rw [hdl] at hRb ⊢
      clear hdl
      have hcc := same_at (HRa.out.grow hE9) hRb
      rw [decide_eq_true (rfl : D = D)] at hcc
      have HE9 := hid (HE8.out.trans' hE9)
      clear hE9 hRb HRa
      go_wp2_with fail
      refine hcc.mono ?_
      clear hcc
      rintro e w14 ⟨rfl, hE10⟩
      have HE10 := hid (HE9.out.trans' hE10)
      clear hE10
      go_wp2_with fail
      go_roundw
      case rel => exact ⟨k + 1, by omega, by go_num, HE10⟩
      case measure => simp [intOf]; omega
    · obtain rfl : k = nm := by omega
      have hlt' : ¬ ((k : Int) < (k : Int)) := by omega
      have HEr := hid (HE11.out.trans' HE.out)
      have HpA := hid (show PutFit (viewP L9) by rw [Hv9.out]; exact HfD.out.put (by decide))
      have HpB := hid (show PutFit (viewP M11) from HfD.out.put (by decide))
      clear HD11 hlt
      rcases Hgg.out with rfl | rfl
      · clear Hgg
        go_wp2_with fail
        apply wp_drawn [isV _, isV _, isV _, isV _, isV _, anyV, anyV, isV (.bool true), isV _, isV _, isV _, isV _, isV _, isV _, isV _, isV _, isV (.bool true), isV _, isV _, isV _, obX w.heap.size (setB (viewP M11)), isV (.string (str (setB (viewP M11)))), isV _, obX w.heap.size (setB (viewP M11)), isV (.string (str (setB (viewP M11)))), isV (.bool true), isV _, isV _] (by kernel_rfl)
        · kernel_rfl
        · refine ⟨?pbs0, ?pbs1, ?pbs2, ?pbs3, ?pbs4, ?pbs5, ?pbs6, ?pbs7, ?pbs8, ?pbs9, ?pbs10, ?pbs11, ?pbs12, ?pbs13, ?pbs14, ?pbs15, ?pbs16, ?pbs17, ?pbs18, ?pbs19, ?pbs20, ?pbs21, ?pbs22, ?pbs23, ?pbs24, ?pbs25, ?pbs26, ?pbs27, trivial⟩
          case pbs0 =>
            intro v W hE hd; simp only [Region.wanted, ↓reduceIte]; (try simp [deps, waitsOn, Region.binds, knowing, isV, ownsV, anyV] at hd); simp only [putAll, List.take_succ_cons, List.take_zero, List.drop_succ_cons, List.drop_zero, Act.put, List.setIfInBounds_toArray, List.set_cons_zero, List.set_cons_succ, Nat.zero_add, Nat.reduceAdd]; go_simp; exact ⟨Below.refl _ _, rfl⟩
          case pbs1 =>
            intro v W hE hd; simp only [Region.wanted, ↓reduceIte]; (try simp [deps, waitsOn, Region.binds, knowing, isV, ownsV, anyV] at hd); simp only [putAll, List.take_succ_cons, List.take_zero, List.drop_succ_cons, List.drop_zero, Act.put, List.setIfInBounds_toArray, List.set_cons_zero, List.set_cons_succ, Nat.zero_add, Nat.reduceAdd]; go_simp; exact ⟨Below.refl _ _, rfl⟩
          case pbs2 =>
            intro v W hE hd; (try simp [deps, waitsOn, Region.binds, knowing, isV, ownsV, anyV] at hd); simp only [putAll, List.take_succ_cons, List.take_zero, List.drop_succ_cons, List.drop_zero, Act.put, List.setIfInBounds_toArray, List.set_cons_zero, List.set_cons_succ, Nat.zero_add, Nat.reduceAdd]; rw [if_pos (by simp [Region.wanted, yielded, hd])]; go_simp; exact ⟨Below.refl _ _, rfl⟩
          case pbs3 =>
            intro v W hE hd; (try simp [deps, waitsOn, Region.binds, knowing, isV, ownsV, anyV] at hd); simp only [putAll, List.take_succ_cons, List.take_zero, List.drop_succ_cons, List.drop_zero, Act.put, List.setIfInBounds_toArray, List.set_cons_zero, List.set_cons_succ, Nat.zero_add, Nat.reduceAdd]; rw [if_pos (by simp [Region.wanted, yielded, hd])]; go_simp; exact ⟨Below.refl _ _, rfl⟩
          case pbs4 =>
            intro v W hE hd; (try simp [deps, waitsOn, Region.binds, knowing, isV, ownsV, anyV] at hd); simp only [putAll, List.take_succ_cons, List.take_zero, List.drop_succ_cons, List.drop_zero, Act.put, List.setIfInBounds_toArray, List.set_cons_zero, List.set_cons_succ, Nat.zero_add, Nat.reduceAdd]; rw [if_pos (by simp [Region.wanted, yielded, hd])]; go_simp; exact ⟨Below.refl _ _, rfl⟩
          case pbs5 =>
            intro v W hE hd; (try simp [deps, waitsOn, Region.binds, knowing, isV, ownsV, anyV] at hd); simp only [putAll, List.take_succ_cons, List.take_zero, List.drop_succ_cons, List.drop_zero, Act.put, List.setIfInBounds_toArray, List.set_cons_zero, List.set_cons_succ, Nat.zero_add, Nat.reduceAdd]; rw [if_neg (by simp [Region.wanted, yielded, hd])]; exact trivial
          case pbs6 =>
            intro v W hE hd; (try simp [deps, waitsOn, Region.binds, knowing, isV, ownsV, anyV] at hd); simp only [putAll, List.take_succ_cons, List.take_zero, List.drop_succ_cons, List.drop_zero, Act.put, List.setIfInBounds_toArray, List.set_cons_zero, List.set_cons_succ, Nat.zero_add, Nat.reduceAdd]; rw [if_neg (by simp [Region.wanted, yielded, hd])]; exact trivial
          case pbs7 =>
            intro v W hE hd; (try simp [deps, waitsOn, Region.binds, knowing, isV, ownsV, anyV] at hd); simp only [putAll, List.take_succ_cons, List.take_zero, List.drop_succ_cons, List.drop_zero, Act.put, List.setIfInBounds_toArray, List.set_cons_zero, List.set_cons_succ, Nat.zero_add, Nat.reduceAdd]; rw [if_pos (by simp [Region.wanted, yielded, hd])]
            go_simp
            exact ⟨Below.refl _ _, rfl⟩
          case pbs8 =>
            intro v W hE hd; simp only [Region.wanted, ↓reduceIte]; (try simp [deps, waitsOn, Region.binds, knowing, isV, ownsV, anyV] at hd); simp only [putAll, List.take_succ_cons, List.take_zero, List.drop_succ_cons, List.drop_zero, Act.put, List.setIfInBounds_toArray, List.set_cons_zero, List.set_cons_succ, Nat.zero_add, Nat.reduceAdd]; go_simp; exact ⟨Below.refl _ _, rfl⟩
          case pbs9 =>
            intro v W hE hd; simp only [Region.wanted, ↓reduceIte]; (try simp [deps, waitsOn, Region.binds, knowing, isV, ownsV, anyV] at hd); simp only [putAll, List.take_succ_cons, List.take_zero, List.drop_succ_cons, List.drop_zero, Act.put, List.setIfInBounds_toArray, List.set_cons_zero, List.set_cons_succ, Nat.zero_add, Nat.reduceAdd]; go_simp; exact ⟨Below.refl _ _, rfl⟩
          case pbs10 =>
            intro v W hE hd; (try simp [deps, waitsOn, Region.binds, knowing, isV, ownsV, anyV] at hd); simp only [putAll, List.take_succ_cons, List.take_zero, List.drop_succ_cons, List.drop_zero, Act.put, List.setIfInBounds_toArray, List.set_cons_zero, List.set_cons_succ, Nat.zero_add, Nat.reduceAdd]; rw [if_pos (by simp [Region.wanted, yielded, hd])]; go_simp; exact ⟨Below.refl _ _, rfl⟩
          case pbs11 =>
            intro v W hE hd; (try simp [deps, waitsOn, Region.binds, knowing, isV, ownsV, anyV] at hd); simp only [putAll, List.take_succ_cons, List.take_zero, List.drop_succ_cons, List.drop_zero, Act.put, List.setIfInBounds_toArray, List.set_cons_zero, List.set_cons_succ, Nat.zero_add, Nat.reduceAdd]; rw [if_pos (by simp [Region.wanted, yielded, hd])]; go_simp; exact ⟨Below.refl _ _, rfl⟩
          case pbs12 =>
            intro v W hE hd; simp only [Region.wanted, ↓reduceIte]; (try simp [deps, waitsOn, Region.binds, knowing, isV, ownsV, anyV] at hd); simp only [putAll, List.take_succ_cons, List.take_zero, List.drop_succ_cons, List.drop_zero, Act.put, List.setIfInBounds_toArray, List.set_cons_zero, List.set_cons_succ, Nat.zero_add, Nat.reduceAdd]; go_simp; exact ⟨Below.refl _ _, rfl⟩
          case pbs13 =>
            intro v W hE hd; simp only [Region.wanted, ↓reduceIte]; (try simp [deps, waitsOn, Region.binds, knowing, isV, ownsV, anyV] at hd); simp only [putAll, List.take_succ_cons, List.take_zero, List.drop_succ_cons, List.drop_zero, Act.put, List.setIfInBounds_toArray, List.set_cons_zero, List.set_cons_succ, Nat.zero_add, Nat.reduceAdd]; go_simp; exact ⟨Below.refl _ _, rfl⟩
          case pbs14 =>
            intro v W hE hd; (try simp [deps, waitsOn, Region.binds, knowing, isV, ownsV, anyV] at hd); simp only [putAll, List.take_succ_cons, List.take_zero, List.drop_succ_cons, List.drop_zero, Act.put, List.setIfInBounds_toArray, List.set_cons_zero, List.set_cons_succ, Nat.zero_add, Nat.reduceAdd]; rw [if_pos (by simp [Region.wanted, yielded, hd])]; go_simp; exact ⟨Below.refl _ _, rfl⟩
          case pbs15 =>
            intro v W hE hd; (try simp [deps, waitsOn, Region.binds, knowing, isV, ownsV, anyV] at hd); simp only [putAll, List.take_succ_cons, List.take_zero, List.drop_succ_cons, List.drop_zero, Act.put, List.setIfInBounds_toArray, List.set_cons_zero, List.set_cons_succ, Nat.zero_add, Nat.reduceAdd]; rw [if_pos (by simp [Region.wanted, yielded, hd])]; go_simp; exact ⟨Below.refl _ _, rfl⟩
          case pbs16 =>
            intro v W hE hd; (try simp [deps, waitsOn, Region.binds, knowing, isV, ownsV, anyV] at hd); simp only [putAll, List.take_succ_cons, List.take_zero, List.drop_succ_cons, List.drop_zero, Act.put, List.setIfInBounds_toArray, List.set_cons_zero, List.set_cons_succ, Nat.zero_add, Nat.reduceAdd]; rw [if_pos (by simp [Region.wanted, yielded, hd])]
            go_simp
            exact ⟨Below.refl _ _, rfl⟩
          case pbs17 =>
            intro v W hE hd; simp only [Region.wanted, ↓reduceIte]; (try simp [deps, waitsOn, Region.binds, knowing, isV, ownsV, anyV] at hd); simp only [putAll, List.take_succ_cons, List.take_zero, List.drop_succ_cons, List.drop_zero, Act.put, List.setIfInBounds_toArray, List.set_cons_zero, List.set_cons_succ, Nat.zero_add, Nat.reduceAdd]; go_simp; exact ⟨Below.refl _ _, rfl⟩
          case pbs18 =>
            intro v W hE hd; simp only [Region.wanted, ↓reduceIte]; (try simp [deps, waitsOn, Region.binds, knowing, isV, ownsV, anyV] at hd); simp only [putAll, List.take_succ_cons, List.take_zero, List.drop_succ_cons, List.drop_zero, Act.put, List.setIfInBounds_toArray, List.set_cons_zero, List.set_cons_succ, Nat.zero_add, Nat.reduceAdd]; go_simp; exact ⟨Below.refl _ _, rfl⟩
          case pbs19 =>
            intro v W hE hd; (try simp [deps, waitsOn, Region.binds, knowing, isV, ownsV, anyV] at hd); simp only [putAll, List.take_succ_cons, List.take_zero, List.drop_succ_cons, List.drop_zero, Act.put, List.setIfInBounds_toArray, List.set_cons_zero, List.set_cons_succ, Nat.zero_add, Nat.reduceAdd]; rw [if_pos (by simp [Region.wanted, yielded, hd])]; go_simp; exact ⟨Below.refl _ _, rfl⟩
          case pbs20 =>
            intro v W hE hd; (try simp [deps, waitsOn, Region.binds, knowing, isV, ownsV, anyV] at hd); simp only [putAll, List.take_succ_cons, List.take_zero, List.drop_succ_cons, List.drop_zero, Act.put, List.setIfInBounds_toArray, List.set_cons_zero, List.set_cons_succ, Nat.zero_add, Nat.reduceAdd]; rw [if_pos (by simp [Region.wanted, yielded, hd])]
            have hcc := setPut_at (HDr.out.A.ext hE) HpA.out
            rw [Hv9.out] at hcc
            go_simp
            refine hcc.mono ?_
            clear hcc
            rintro e w' ⟨hE2, v', rfl, hO⟩
            have HOo := hid hO; have HEe := hid hE2
            clear hO hE2
            go_simp
            exact ⟨HEe.out, OB.base HOo.out (by have := hE.size; have := HEr.out.size; omega)⟩
          case pbs21 =>
            intro v W hE hd; (try simp [deps, waitsOn, Region.binds, knowing, isV, ownsV, anyV] at hd); simp only [putAll, List.take_succ_cons, List.take_zero, List.drop_succ_cons, List.drop_zero, Act.put, List.setIfInBounds_toArray, List.set_cons_zero, List.set_cons_succ, Nat.zero_add, Nat.reduceAdd]; rw [if_pos (by simp [Region.wanted, yielded, hd])]
            have h3 : OB W w.heap.size (v 20) (setB (viewP M11)) := hd.1
            obtain ⟨A3, n3, c3, e3, rfl, -, hr3⟩ := OB.rd h3
            have hs := run_str hr3 c3
            rw [e3]
            clear h3 hr3
            go_simp
            exact ⟨Below.refl _ _, rfl⟩
          case pbs22 =>
            intro v W hE hd; (try simp [deps, waitsOn, Region.binds, knowing, isV, ownsV, anyV] at hd); simp only [putAll, List.take_succ_cons, List.take_zero, List.drop_succ_cons, List.drop_zero, Act.put, List.setIfInBounds_toArray, List.set_cons_zero, List.set_cons_succ, Nat.zero_add, Nat.reduceAdd]; rw [if_pos (by simp [Region.wanted, yielded, hd])]; go_simp; exact ⟨Below.refl _ _, rfl⟩
          case pbs23 =>
            intro v W hE hd; (try simp [deps, waitsOn, Region.binds, knowing, isV, ownsV, anyV] at hd); simp only [putAll, List.take_succ_cons, List.take_zero, List.drop_succ_cons, List.drop_zero, Act.put, List.setIfInBounds_toArray, List.set_cons_zero, List.set_cons_succ, Nat.zero_add, Nat.reduceAdd]; rw [if_pos (by simp [Region.wanted, yielded, hd])]
            have hcc := setPut_at (HDr.out.B.ext hE) HpB.out
            go_simp
            refine hcc.mono ?_
            clear hcc
            rintro e w' ⟨hE2, v', rfl, hO⟩
            have HOo := hid hO; have HEe := hid hE2
            clear hO hE2
            go_simp
            exact ⟨HEe.out, OB.base HOo.out (by have := hE.size; have := HEr.out.size; omega)⟩
          case pbs24 =>
            intro v W hE hd; (try simp [deps, waitsOn, Region.binds, knowing, isV, ownsV, anyV] at hd); simp only [putAll, List.take_succ_cons, List.take_zero, List.drop_succ_cons, List.drop_zero, Act.put, List.setIfInBounds_toArray, List.set_cons_zero, List.set_cons_succ, Nat.zero_add, Nat.reduceAdd]; rw [if_pos (by simp [Region.wanted, yielded, hd])]
            have h3 : OB W w.heap.size (v 23) (setB (viewP M11)) := hd.1
            obtain ⟨A3, n3, c3, e3, rfl, -, hr3⟩ := OB.rd h3
            have hs := run_str hr3 c3
            rw [e3]
            clear h3 hr3
            go_simp
            exact ⟨Below.refl _ _, rfl⟩
          case pbs25 =>
            intro v W hE hd; (try simp [deps, waitsOn, Region.binds, knowing, isV, ownsV, anyV] at hd); simp only [putAll, List.take_succ_cons, List.take_zero, List.drop_succ_cons, List.drop_zero, Act.put, List.setIfInBounds_toArray, List.set_cons_zero, List.set_cons_succ, Nat.zero_add, Nat.reduceAdd]; rw [if_pos (by simp [Region.wanted, yielded, hd])]
            go_simp
            exact ⟨Below.refl _ _, rfl⟩
          case pbs26 =>
            intro v W hE hd; simp only [Region.wanted, ↓reduceIte]; (try simp [deps, waitsOn, Region.binds, knowing, isV, ownsV, anyV] at hd); simp only [putAll, List.take_succ_cons, List.take_zero, List.drop_succ_cons, List.drop_zero, Act.put, List.setIfInBounds_toArray, List.set_cons_zero, List.set_cons_succ, Nat.zero_add, Nat.reduceAdd]; go_simp; exact ⟨Below.refl _ _, rfl⟩
          case pbs27 =>
            intro v W hE hd; simp only [Region.wanted, ↓reduceIte]; (try simp [deps, waitsOn, Region.binds, knowing, isV, ownsV, anyV] at hd); simp only [putAll, List.take_succ_cons, List.take_zero, List.drop_succ_cons, List.drop_zero, Act.put, List.setIfInBounds_toArray, List.set_cons_zero, List.set_cons_succ, Nat.zero_add, Nat.reduceAdd]; go_simp; exact ⟨Below.refl _ _, rfl⟩
        · rintro v W9 hE ⟨-, -, -, -, -, -, -, -, -, -, -, -, -, -, -, -, -, -, -, -, -, -, -, -, -, -, -, e27, -⟩
          have e27 := (show v 27 = _ from e27)
          simp only [putAll, List.take_succ_cons, List.take_zero, List.drop_succ_cons, List.drop_zero, Act.put, List.setIfInBounds_toArray, List.set_cons_zero, List.set_cons_succ, Nat.zero_add, Nat.reduceAdd]
          have HEf := hid (HEr.out.trans' hE)
          rw [e27]
          clear hE e27
          go_wp2
          go_ret
          exact ⟨rfl, HEf.out⟩
      · clear Hgg
        go_wp2_with fail
        apply wp_drawn [isV _, isV _, isV _, isV _, isV _, isV _, isV _, isV (.bool true), isV _, isV _, isV _, isV _, isV _, isV _, isV _, isV _, isV (.bool true), isV _, isV _, isV _, obX w.heap.size (setB (viewP M11)), isV (.string (str (setB (viewP M11)))), isV _, obX w.heap.size (setB (viewP M11)), isV (.string (str (setB (viewP M11)))), isV (.bool true), isV _, isV _] (by kernel_rfl)
        · kernel_rfl
        · refine ⟨?pbs0, ?pbs1, ?pbs2, ?pbs3, ?pbs4, ?pbs5, ?pbs6, ?pbs7, ?pbs8, ?pbs9, ?pbs10, ?pbs11, ?pbs12, ?pbs13, ?pbs14, ?pbs15, ?pbs16, ?pbs17, ?pbs18, ?pbs19, ?pbs20, ?pbs21, ?pbs22, ?pbs23, ?pbs24, ?pbs25, ?pbs26, ?pbs27, trivial⟩
          case pbs0 =>
            intro v W hE hd; simp only [Region.wanted, ↓reduceIte]; (try simp [deps, waitsOn, Region.binds, knowing, isV, ownsV, anyV] at hd); simp only [putAll, List.take_succ_cons, List.take_zero, List.drop_succ_cons, List.drop_zero, Act.put, List.setIfInBounds_toArray, List.set_cons_zero, List.set_cons_succ, Nat.zero_add, Nat.reduceAdd]; go_simp; exact ⟨Below.refl _ _, rfl⟩
          case pbs1 =>
            intro v W hE hd; simp only [Region.wanted, ↓reduceIte]; (try simp [deps, waitsOn, Region.binds, knowing, isV, ownsV, anyV] at hd); simp only [putAll, List.take_succ_cons, List.take_zero, List.drop_succ_cons, List.drop_zero, Act.put, List.setIfInBounds_toArray, List.set_cons_zero, List.set_cons_succ, Nat.zero_add, Nat.reduceAdd]; go_simp; exact ⟨Below.refl _ _, rfl⟩
          case pbs2 =>
            intro v W hE hd; (try simp [deps, waitsOn, Region.binds, knowing, isV, ownsV, anyV] at hd); simp only [putAll, List.take_succ_cons, List.take_zero, List.drop_succ_cons, List.drop_zero, Act.put, List.setIfInBounds_toArray, List.set_cons_zero, List.set_cons_succ, Nat.zero_add, Nat.reduceAdd]; rw [if_pos (by simp [Region.wanted, yielded, hd])]; go_simp; exact ⟨Below.refl _ _, rfl⟩
          case pbs3 =>
            intro v W hE hd; (try simp [deps, waitsOn, Region.binds, knowing, isV, ownsV, anyV] at hd); simp only [putAll, List.take_succ_cons, List.take_zero, List.drop_succ_cons, List.drop_zero, Act.put, List.setIfInBounds_toArray, List.set_cons_zero, List.set_cons_succ, Nat.zero_add, Nat.reduceAdd]; rw [if_pos (by simp [Region.wanted, yielded, hd])]; go_simp; exact ⟨Below.refl _ _, rfl⟩
          case pbs4 =>
            intro v W hE hd; (try simp [deps, waitsOn, Region.binds, knowing, isV, ownsV, anyV] at hd); simp only [putAll, List.take_succ_cons, List.take_zero, List.drop_succ_cons, List.drop_zero, Act.put, List.setIfInBounds_toArray, List.set_cons_zero, List.set_cons_succ, Nat.zero_add, Nat.reduceAdd]; rw [if_pos (by simp [Region.wanted, yielded, hd])]; go_simp; exact ⟨Below.refl _ _, rfl⟩
          case pbs5 =>
            intro v W hE hd; (try simp [deps, waitsOn, Region.binds, knowing, isV, ownsV, anyV] at hd); simp only [putAll, List.take_succ_cons, List.take_zero, List.drop_succ_cons, List.drop_zero, Act.put, List.setIfInBounds_toArray, List.set_cons_zero, List.set_cons_succ, Nat.zero_add, Nat.reduceAdd]; rw [if_pos (by simp [Region.wanted, yielded, hd])]; go_simp; exact ⟨Below.refl _ _, rfl⟩
          case pbs6 =>
            intro v W hE hd; (try simp [deps, waitsOn, Region.binds, knowing, isV, ownsV, anyV] at hd); simp only [putAll, List.take_succ_cons, List.take_zero, List.drop_succ_cons, List.drop_zero, Act.put, List.setIfInBounds_toArray, List.set_cons_zero, List.set_cons_succ, Nat.zero_add, Nat.reduceAdd]; rw [if_pos (by simp [Region.wanted, yielded, hd])]; go_simp; exact ⟨Below.refl _ _, rfl⟩
          case pbs7 =>
            intro v W hE hd; (try simp [deps, waitsOn, Region.binds, knowing, isV, ownsV, anyV] at hd); simp only [putAll, List.take_succ_cons, List.take_zero, List.drop_succ_cons, List.drop_zero, Act.put, List.setIfInBounds_toArray, List.set_cons_zero, List.set_cons_succ, Nat.zero_add, Nat.reduceAdd]; rw [if_pos (by simp [Region.wanted, yielded, hd])]
            go_simp
            exact ⟨Below.refl _ _, rfl⟩
          case pbs8 =>
            intro v W hE hd; simp only [Region.wanted, ↓reduceIte]; (try simp [deps, waitsOn, Region.binds, knowing, isV, ownsV, anyV] at hd); simp only [putAll, List.take_succ_cons, List.take_zero, List.drop_succ_cons, List.drop_zero, Act.put, List.setIfInBounds_toArray, List.set_cons_zero, List.set_cons_succ, Nat.zero_add, Nat.reduceAdd]; go_simp; exact ⟨Below.refl _ _, rfl⟩
          case pbs9 =>
            intro v W hE hd; simp only [Region.wanted, ↓reduceIte]; (try simp [deps, waitsOn, Region.binds, knowing, isV, ownsV, anyV] at hd); simp only [putAll, List.take_succ_cons, List.take_zero, List.drop_succ_cons, List.drop_zero, Act.put, List.setIfInBounds_toArray, List.set_cons_zero, List.set_cons_succ, Nat.zero_add, Nat.reduceAdd]; go_simp; exact ⟨Below.refl _ _, rfl⟩
          case pbs10 =>
            intro v W hE hd; (try simp [deps, waitsOn, Region.binds, knowing, isV, ownsV, anyV] at hd); simp only [putAll, List.take_succ_cons, List.take_zero, List.drop_succ_cons, List.drop_zero, Act.put, List.setIfInBounds_toArray, List.set_cons_zero, List.set_cons_succ, Nat.zero_add, Nat.reduceAdd]; rw [if_pos (by simp [Region.wanted, yielded, hd])]; go_simp; exact ⟨Below.refl _ _, rfl⟩
          case pbs11 =>
            intro v W hE hd; (try simp [deps, waitsOn, Region.binds, knowing, isV, ownsV, anyV] at hd); simp only [putAll, List.take_succ_cons, List.take_zero, List.drop_succ_cons, List.drop_zero, Act.put, List.setIfInBounds_toArray, List.set_cons_zero, List.set_cons_succ, Nat.zero_add, Nat.reduceAdd]; rw [if_pos (by simp [Region.wanted, yielded, hd])]; go_simp; exact ⟨Below.refl _ _, rfl⟩
          case pbs12 =>
            intro v W hE hd; simp only [Region.wanted, ↓reduceIte]; (try simp [deps, waitsOn, Region.binds, knowing, isV, ownsV, anyV] at hd); simp only [putAll, List.take_succ_cons, List.take_zero, List.drop_succ_cons, List.drop_zero, Act.put, List.setIfInBounds_toArray, List.set_cons_zero, List.set_cons_succ, Nat.zero_add, Nat.reduceAdd]; go_simp; exact ⟨Below.refl _ _, rfl⟩
          case pbs13 =>
            intro v W hE hd; simp only [Region.wanted, ↓reduceIte]; (try simp [deps, waitsOn, Region.binds, knowing, isV, ownsV, anyV] at hd); simp only [putAll, List.take_succ_cons, List.take_zero, List.drop_succ_cons, List.drop_zero, Act.put, List.setIfInBounds_toArray, List.set_cons_zero, List.set_cons_succ, Nat.zero_add, Nat.reduceAdd]; go_simp; exact ⟨Below.refl _ _, rfl⟩
          case pbs14 =>
            intro v W hE hd; (try simp [deps, waitsOn, Region.binds, knowing, isV, ownsV, anyV] at hd); simp only [putAll, List.take_succ_cons, List.take_zero, List.drop_succ_cons, List.drop_zero, Act.put, List.setIfInBounds_toArray, List.set_cons_zero, List.set_cons_succ, Nat.zero_add, Nat.reduceAdd]; rw [if_pos (by simp [Region.wanted, yielded, hd])]; go_simp; exact ⟨Below.refl _ _, rfl⟩
          case pbs15 =>
            intro v W hE hd; (try simp [deps, waitsOn, Region.binds, knowing, isV, ownsV, anyV] at hd); simp only [putAll, List.take_succ_cons, List.take_zero, List.drop_succ_cons, List.drop_zero, Act.put, List.setIfInBounds_toArray, List.set_cons_zero, List.set_cons_succ, Nat.zero_add, Nat.reduceAdd]; rw [if_pos (by simp [Region.wanted, yielded, hd])]; go_simp; exact ⟨Below.refl _ _, rfl⟩
          case pbs16 =>
            intro v W hE hd; (try simp [deps, waitsOn, Region.binds, knowing, isV, ownsV, anyV] at hd); simp only [putAll, List.take_succ_cons, List.take_zero, List.drop_succ_cons, List.drop_zero, Act.put, List.setIfInBounds_toArray, List.set_cons_zero, List.set_cons_succ, Nat.zero_add, Nat.reduceAdd]; rw [if_pos (by simp [Region.wanted, yielded, hd])]
            go_simp
            exact ⟨Below.refl _ _, rfl⟩
          case pbs17 =>
            intro v W hE hd; simp only [Region.wanted, ↓reduceIte]; (try simp [deps, waitsOn, Region.binds, knowing, isV, ownsV, anyV] at hd); simp only [putAll, List.take_succ_cons, List.take_zero, List.drop_succ_cons, List.drop_zero, Act.put, List.setIfInBounds_toArray, List.set_cons_zero, List.set_cons_succ, Nat.zero_add, Nat.reduceAdd]; go_simp; exact ⟨Below.refl _ _, rfl⟩
          case pbs18 =>
            intro v W hE hd; simp only [Region.wanted, ↓reduceIte]; (try simp [deps, waitsOn, Region.binds, knowing, isV, ownsV, anyV] at hd); simp only [putAll, List.take_succ_cons, List.take_zero, List.drop_succ_cons, List.drop_zero, Act.put, List.setIfInBounds_toArray, List.set_cons_zero, List.set_cons_succ, Nat.zero_add, Nat.reduceAdd]; go_simp; exact ⟨Below.refl _ _, rfl⟩
          case pbs19 =>
            intro v W hE hd; (try simp [deps, waitsOn, Region.binds, knowing, isV, ownsV, anyV] at hd); simp only [putAll, List.take_succ_cons, List.take_zero, List.drop_succ_cons, List.drop_zero, Act.put, List.setIfInBounds_toArray, List.set_cons_zero, List.set_cons_succ, Nat.zero_add, Nat.reduceAdd]; rw [if_pos (by simp [Region.wanted, yielded, hd])]; go_simp; exact ⟨Below.refl _ _, rfl⟩
          case pbs20 =>
            intro v W hE hd; (try simp [deps, waitsOn, Region.binds, knowing, isV, ownsV, anyV] at hd); simp only [putAll, List.take_succ_cons, List.take_zero, List.drop_succ_cons, List.drop_zero, Act.put, List.setIfInBounds_toArray, List.set_cons_zero, List.set_cons_succ, Nat.zero_add, Nat.reduceAdd]; rw [if_pos (by simp [Region.wanted, yielded, hd])]
            have hcc := setPut_at (HDr.out.A.ext hE) HpA.out
            rw [Hv9.out] at hcc
            go_simp
            refine hcc.mono ?_
            clear hcc
            rintro e w' ⟨hE2, v', rfl, hO⟩
            have HOo := hid hO; have HEe := hid hE2
            clear hO hE2
            go_simp
            exact ⟨HEe.out, OB.base HOo.out (by have := hE.size; have := HEr.out.size; omega)⟩
          case pbs21 =>
            intro v W hE hd; (try simp [deps, waitsOn, Region.binds, knowing, isV, ownsV, anyV] at hd); simp only [putAll, List.take_succ_cons, List.take_zero, List.drop_succ_cons, List.drop_zero, Act.put, List.setIfInBounds_toArray, List.set_cons_zero, List.set_cons_succ, Nat.zero_add, Nat.reduceAdd]; rw [if_pos (by simp [Region.wanted, yielded, hd])]
            have h3 : OB W w.heap.size (v 20) (setB (viewP M11)) := hd.1
            obtain ⟨A3, n3, c3, e3, rfl, -, hr3⟩ := OB.rd h3
            have hs := run_str hr3 c3
            rw [e3]
            clear h3 hr3
            go_simp
            exact ⟨Below.refl _ _, rfl⟩
          case pbs22 =>
            intro v W hE hd; (try simp [deps, waitsOn, Region.binds, knowing, isV, ownsV, anyV] at hd); simp only [putAll, List.take_succ_cons, List.take_zero, List.drop_succ_cons, List.drop_zero, Act.put, List.setIfInBounds_toArray, List.set_cons_zero, List.set_cons_succ, Nat.zero_add, Nat.reduceAdd]; rw [if_pos (by simp [Region.wanted, yielded, hd])]; go_simp; exact ⟨Below.refl _ _, rfl⟩
          case pbs23 =>
            intro v W hE hd; (try simp [deps, waitsOn, Region.binds, knowing, isV, ownsV, anyV] at hd); simp only [putAll, List.take_succ_cons, List.take_zero, List.drop_succ_cons, List.drop_zero, Act.put, List.setIfInBounds_toArray, List.set_cons_zero, List.set_cons_succ, Nat.zero_add, Nat.reduceAdd]; rw [if_pos (by simp [Region.wanted, yielded, hd])]
            have hcc := setPut_at (HDr.out.B.ext hE) HpB.out
            go_simp
            refine hcc.mono ?_
            clear hcc
            rintro e w' ⟨hE2, v', rfl, hO⟩
            have HOo := hid hO; have HEe := hid hE2
            clear hO hE2
            go_simp
            exact ⟨HEe.out, OB.base HOo.out (by have := hE.size; have := HEr.out.size; omega)⟩
          case pbs24 =>
            intro v W hE hd; (try simp [deps, waitsOn, Region.binds, knowing, isV, ownsV, anyV] at hd); simp only [putAll, List.take_succ_cons, List.take_zero, List.drop_succ_cons, List.drop_zero, Act.put, List.setIfInBounds_toArray, List.set_cons_zero, List.set_cons_succ, Nat.zero_add, Nat.reduceAdd]; rw [if_pos (by simp [Region.wanted, yielded, hd])]
            have h3 : OB W w.heap.size (v 23) (setB (viewP M11)) := hd.1
            obtain ⟨A3, n3, c3, e3, rfl, -, hr3⟩ := OB.rd h3
            have hs := run_str hr3 c3
            rw [e3]
            clear h3 hr3
            go_simp
            exact ⟨Below.refl _ _, rfl⟩
          case pbs25 =>
            intro v W hE hd; (try simp [deps, waitsOn, Region.binds, knowing, isV, ownsV, anyV] at hd); simp only [putAll, List.take_succ_cons, List.take_zero, List.drop_succ_cons, List.drop_zero, Act.put, List.setIfInBounds_toArray, List.set_cons_zero, List.set_cons_succ, Nat.zero_add, Nat.reduceAdd]; rw [if_pos (by simp [Region.wanted, yielded, hd])]
            go_simp
            exact ⟨Below.refl _ _, rfl⟩
          case pbs26 =>
            intro v W hE hd; simp only [Region.wanted, ↓reduceIte]; (try simp [deps, waitsOn, Region.binds, knowing, isV, ownsV, anyV] at hd); simp only [putAll, List.take_succ_cons, List.take_zero, List.drop_succ_cons, List.drop_zero, Act.put, List.setIfInBounds_toArray, List.set_cons_zero, List.set_cons_succ, Nat.zero_add, Nat.reduceAdd]; go_simp; exact ⟨Below.refl _ _, rfl⟩
          case pbs27 =>
            intro v W hE hd; simp only [Region.wanted, ↓reduceIte]; (try simp [deps, waitsOn, Region.binds, knowing, isV, ownsV, anyV] at hd); simp only [putAll, List.take_succ_cons, List.take_zero, List.drop_succ_cons, List.drop_zero, Act.put, List.setIfInBounds_toArray, List.set_cons_zero, List.set_cons_succ, Nat.zero_add, Nat.reduceAdd]; go_simp; exact ⟨Below.refl _ _, rfl⟩
        · rintro v W9 hE ⟨-, -, -, -, -, -, -, -, -, -, -, -, -, -, -, -, -, -, -, -, -, -, -, -, -, -, -, e27, -⟩
          have e27 := (show v 27 = _ from e27)
          simp only [putAll, List.take_succ_cons, List.take_zero, List.drop_succ_cons, List.drop_zero, Act.put, List.setIfInBounds_toArray, List.set_cons_zero, List.set_cons_succ, Nat.zero_add, Nat.reduceAdd]
          have HEf := hid (HEr.out.trans' hE)
          rw [e27]
          clear hE e27
          go_wp2
          go_ret
          exact ⟨rfl, HEf.out⟩
end Go.Proofs.YtffidnimoodniaaGreat
