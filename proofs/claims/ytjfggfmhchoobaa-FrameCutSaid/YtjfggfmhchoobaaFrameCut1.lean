/- The walk of the law FrameCut. -/
import Derived.Test.YtjfggfmhchoobaaFramed
import Derived.Test.YtjfggfmhchoobaaOwnA
import Derived.Test.YtjfggfmhchoobaaFrameCutMath
import Derived.Deep.DeepCutAuto
import Derived.Deep.CutBlock
namespace Go.Proofs.Ytjfggfmhchoobaa
open Go Go.RowKit
set_option linter.unusedSimpArgs false
set_option linter.unusedVariables false

theorem sl_int : SlInfo Try.prog 52 3 (.int .i64 0) 1 8 := ⟨Try.underlying52, by kernel_rfl, rfl, by omega⟩
theorem firsts_total (k : Nat) (xs : List (List UInt8)) : Frm.total (firsts k xs) ≤ 108 * k := by
  rw [← Frm.frms_length]; exact frms_few k xs
theorem scan_all (l : List (List UInt8)) (h : ∀ x ∈ l, x.length ≤ 100) : Frm.scan (Frm.frms l) = l := by
  have := Frm.scan_frms l [] (fun x hx => Nat.le_trans (h x hx) (by omega))
  rwa [List.append_nil, Frm.scan_nil, List.append_nil] at this

set_option maxRecDepth 100000 in
set_option maxHeartbeats 4000000 in
theorem frameCut_in (A1 : Option Addr) (n1 C1 : Nat) (xs : List (List UInt8)) (at0 : Int) (d : UInt8) (w : World) (i1 : SlR (Rep.slice Rep.u8) w (· < w.heap.size) A1 n1 C1 xs) (hat0 : -9223372036854775808 ≤ at0 ∧ at0 ≤ 9223372036854775807) :
    Calls Try.prog 11 #[.slice A1 n1 C1, .int .i64 at0, .int .u8 (d.toNat : Int)] w fun e w' => e = .returned (.bool true) ∧ Below w.heap.size w w' := by
  have hz := zero_tab
  have Hi1 := hid i1; have Hat := hid hat0; clear i1 hat0
  have Hn := hid Hi1.out.1
  go_enter Try.func11, Try.ntmps11
  go_wp2_with fail
  refine (shown9_calls _).mono ?_
  rintro e w1 ⟨rfl, hb1⟩
  have HB1 := hid hb1; clear hb1
  go_wp2_with fail
  -- t := crc.New() in a variable of its own: from w1 on
  refine (new_calls _).mono ?_
  rintro e w2 ⟨rfl, hb2⟩
  have HB2 := hid (below_then HB1.out HB1.out.size hb2); clear hb2 HB1
  go_upto_block 0 with (refine wpList_store_tab (w := w2) rfl (.tmp 8) (.tmp 24) rfl rfl rfl ?_)
  have Ht := hid (TabAt.new w2)
  have HB3 := hid (below_tab HB2.out HB2.out.size)
  have hz3 : w.heap.size ≤ w2.heap.size := HB2.out.size
  have Hz3 := hid hz3; clear hz3 HB2
  generalize hw3 : w2.alloc (.cells (tabs 256) 27) = w3 at Ht HB3 ⊢
  have Hw3 := hid hw3; clear hw3
  have Hi3 := hid (Hi1.out.grow HB3.out)
  have hs3 : w2.heap.size + 1 = w3.heap.size := by rw [← Hw3.out]; simp
  rw [hs3]
  clear hs3
  obtain ⟨l, hl⟩ : ∃ l, l = firsts 12 xs := ⟨_, rfl⟩
  have Hl := hid hl; clear hl
  go_cut [9, 10, 11] (fun b inn ends wx => Hid (OB wx w3.heap.size b (Frm.frms l)) ∧ Hid (OwnA (Rep.slice Rep.u8) 22 w3.heap.size wx w3.heap.size inn l) ∧ Hid (OwnA Rep.i64 3 w3.heap.size wx w3.heap.size ends (Frm.endsOf l)) ∧ Hid (Apart b inn ∧ Apart b ends ∧ Apart inn ends) ∧ Hid (Below w3.heap.size w3 wx))
  case first =>
    go_wp2_with fail
    go_loopw [9, 10, 11, 12] (fun b inn ends i wr => ∃ k : Nat, k ≤ 12 ∧ k ≤ n1 ∧ i = .int .i64 k ∧ Hid (OB wr w3.heap.size b (Frm.frms (firsts k xs))) ∧ Hid (OwnA (Rep.slice Rep.u8) 22 w3.heap.size wr w3.heap.size inn (firsts k xs)) ∧ Hid (OwnA Rep.i64 3 w3.heap.size wr w3.heap.size ends (Frm.endsOf (firsts k xs))) ∧ Hid (Apart b inn ∧ Apart b ends ∧ Apart inn ends) ∧ Hid (Below w3.heap.size w3 wr)) (fun _ _ _ i _ => 12 - (intOf i).toNat)
    case atStart =>
      have hb1 : Below w3.heap.size w3 (w3.alloc (.cells #[] 5)) := (Below.refl _ _).alloc (Nat.le_refl _) _
      have hb2 := hb1.alloc hb1.size (.cells #[] 22)
      have hb3 := hb2.alloc hb2.size (.cells #[] 3)
      refine ⟨0, by omega, by omega, rfl, hid ((((OB_empty w3 _ (Nat.le_refl _)).below ((Below.refl _ _).alloc (Nat.le_refl _) _)).below ((Below.refl _ _).alloc (Nat.le_refl _) _))), hid ?_, hid ?_, hid ⟨?_, ?_, ?_⟩, hid hb3⟩
      · have e2 : w3.heap.size + 1 = (w3.alloc (.cells #[] 5)).heap.size := by simp
        rw [e2]
        exact (OwnA.empty (w3.alloc (.cells #[] 5)) _ hb1.size).ext ((Below.refl _ _).alloc (Nat.le_refl _) _) hb2.size
      · have e2 : w3.heap.size + 1 + 1 = ((w3.alloc (.cells #[] 5)).alloc (.cells #[] 22)).heap.size := by simp
        rw [e2]
        exact OwnA.empty _ _ hb2.size
      all_goals
        intro k h1 h2
        simp [Value.ownBlock] at h1 h2
        omega
    case round =>
      obtain ⟨k, hk12, hkn, rfl, Hb, Hin, Hen, Hap, HB⟩ := hrel
      by_cases hlt : k < n1
      rotate_left
      · have hge : ¬ ((k : Int) < (n1 : Int)) := by omega
        have hfe := firsts_end k 12 xs (.inl (by have := Hn.out; omega)) hk12
        rw [hfe, ← Hl.out] at Hb Hin Hen
        clear hfe
        go_wp2_with fail
        go_meet
        case rel => exact ⟨Hb, Hin, Hen, Hap, HB⟩
      have hltI : (k : Int) < (n1 : Int) := by omega
      by_cases h12 : k < 12
      rotate_left
      · have hge : ¬ ((k : Int) < 12) := by omega
        have hfe := firsts_end k 12 xs (.inr (by omega)) hk12
        rw [hfe, ← Hl.out] at Hb Hin Hen
        clear hfe
        go_wp2_with fail
        go_meet
        case rel => exact ⟨Hb, Hin, Hen, Hap, HB⟩
      have h12I : (k : Int) < 12 := by omega
      have hk1 : k < xs.length := by have := Hn.out; omega
      obtain ⟨g, o, X, c, hA1, hc1, hd, hdm, hr1⟩ := Hi3.out.getC k hk1
      subst hA1
      have hsn := firsts_succ k xs hk1
      obtain ⟨x, hx⟩ : ∃ x, x = xs[k] := ⟨_, rfl⟩
      rw [← hx] at hc1 hr1 hsn hd
      have Hsn := hid hsn
      have H1 := hid (cell_below HB.out hc1)
      have R1 := hid ((hr1.below HB.out).take 100)
      obtain ⟨q, hq⟩ : ∃ q, q = x.length := ⟨_, rfl⟩
      obtain ⟨m, hm⟩ : ∃ m, m = min q 100 := ⟨_, rfl⟩
      rw [← hq] at H1 hd
      have Hm := hid (show m = (x.take 100).length by rw [hm, List.length_take, hq]; omega)
      have Hmq := hid hm
      have hm100 : m ≤ 100 := by omega
      have hmc : m ≤ c := by omega
      have Hrel := hid (old_row (hr1.take 100) Hm.out hmc hdm)
      have Hdm := hid hdm
      clear hx hc1 hr1 hsn hq hm hdm
      have hc2 := H1.out
      go_upto_if 44 with (fail)
      go_cut [13] (fun s wx => s = .slice X m c ∧ wr = wx)
      case first =>
        by_cases h : q ≤ 100
        · have e : m = q := by have := Hmq.out; omega
          go_wp2_with fail
          go_meet
          case rel => exact ⟨by rw [e], rfl⟩
        · have e : m = 100 := by have := Hmq.out; omega
          go_wp2_with fail
          go_meet
          case rel => exact ⟨by rw [e], rfl⟩
      case rest =>
        obtain ⟨rfl, rfl⟩ := hcut
        go_wp2_with fail
        have hcc := put_at w2.heap.size X m c (x.take 100) wr Hm.out (by omega) (Ht.out.below HB.out) R1.out
        refine hcc.mono ?_; clear hcc
        rintro e w4 ⟨v4, rfl, hO4, hB4⟩
        have HB4 := hid (below_then HB.out HB.out.size hB4)
        have Hb4 := hid (Hb.out.below hB4)
        have Hin4 := hid (Hin.out.ext hB4 HB.out.size)
        have Hen4 := hid (Hen.out.ext hB4 HB.out.size)
        clear hB4
        obtain ⟨A4, c4, rfl, hc4, Hr4⟩ := hO4.readAt
        clear hO4
        have Hfl := hid (show m + 8 = (Frm.frm (x.take 100)).length by rw [Frm.frm_length, ← Hm.out])
        rw [← Hfl.out]
        have hlen := frms_few k xs
        have Hlen := hid hlen; clear hlen
        have hfl := firsts_length k xs
        have hel := Frm.endsOf_length (firsts k xs)
        have hfl2 : (firsts k xs).length ≤ 12 := by rw [hfl]; omega
        clear hfl
        go_wp2_with (at_builtin; first
          | (refine wpList_appB (w0 := w3) rfl (.tmp 54) (.tmp 55) rfl w3.heap.size u9 (Frm.frms (firsts k xs)) rfl Hb4 HB4 HB4.out.size A4 c4 (m + 8) (Frm.frm (x.take 100)) rfl Hfl Hr4 (by have := Hlen.out; omega) ?_
             intro v5 w5 Hb5 HB5 G5
             have Hin5 := hid (Hin4.out.grew G5.out HB4.out Hap.out.1.symm (Nat.le_refl _))
             have Hen5 := hid (Hen4.out.grew G5.out HB4.out Hap.out.2.1.symm (Nat.le_refl _))
             obtain ⟨A5, c5, rfl, hc5, -⟩ := Hb5.out.readAt
             obtain ⟨T, hT⟩ : ∃ T, T = (Frm.frms (firsts k xs) ++ Frm.frm (x.take 100)).length := ⟨_, rfl⟩
             rw [← hT]
             rw [← hT] at Hb5 hc5 G5 Hin5 Hen5
             have HT := hid hT; clear hT
             have E5a : Hid (Ext w5 (w5.alloc (.cells #[.slice X m c] 22))) := (Below.refl _ _).alloc (Nat.le_refl _) _
             have HB5a := hid (below_then HB5.out HB5.out.size E5a.out)
             have Hin5a := hid (Hin5.out.1.ext E5a.out HB5.out.size)
             have Hen5a := hid (Hen5.out.1.ext E5a.out HB5.out.size)
             have Hb5a := hid (Hb5.out.below E5a.out)
             have Hnew : Hid (∃ cs, Rows (Rep.slice Rep.u8) (w5.alloc (.cells #[.slice X m c] 22)) (· < w3.heap.size) [x.take 100] cs ∧ RV (w5.alloc (.cells #[.slice X m c] 22)) (some ⟨w5.heap.size, 0, none⟩) cs) := ⟨_, Rows.single ((Rep.slice Rep.u8).ext Hrel.out fun k hk => HB5a.out.block k hk), RV.box _ _ _⟩)
          | (refine wpList_appA (w0 := w3) (R := Rep.slice Rep.u8) (n0 := w3.heap.size) (base := w3.heap.size) (xs := firsts k xs) sl_slice rfl (.tmp 57) (.tmp 59) rfl rfl Hin5a HB5a HB5a.out.size (Nat.le_refl _) (some ⟨w5.heap.size, 0, none⟩) 1 1 [x.take 100] rfl rfl Hnew (by omega) (by omega) ?_
             intro v6 w6 Hin6 HB6 G6
             have Hb6 := hid (Hb5a.out.grew G6.out Hin5.out.2.symm)
             have Hen6 := hid (Hen5a.out.grew G6.out HB5a.out Hap.out.2.2.symm (Nat.le_refl _))
             have E6a : Hid (Ext w6 (w6.alloc (.cells #[.int .i64 (T : Int)] 3))) := (Below.refl _ _).alloc (Nat.le_refl _) _
             have HB6a := hid (below_then HB6.out HB6.out.size E6a.out)
             have Hen6a := hid (Hen6.out.1.ext E6a.out HB6.out.size)
             have Hin6a := hid (Hin6.out.ext E6a.out HB6.out.size)
             have Hb6a := hid (Hb6.out.1.below E6a.out)
             have Hnew2 : Hid (∃ cs, Rows Rep.i64 (w6.alloc (.cells #[.int .i64 (T : Int)] 3)) (· < w3.heap.size) [(T : Int)] cs ∧ RV (w6.alloc (.cells #[.int .i64 (T : Int)] 3)) (some ⟨w6.heap.size, 0, none⟩) cs) := ⟨_, Rows.single rfl, RV.box _ _ _⟩)
          | (refine wpList_appA (w0 := w3) (R := Rep.i64) (n0 := w3.heap.size) (base := w3.heap.size) (xs := Frm.endsOf (firsts k xs)) sl_int rfl (.tmp 61) (.tmp 64) rfl rfl Hen6a HB6a HB6a.out.size (Nat.le_refl _) (some ⟨w6.heap.size, 0, none⟩) 1 1 [(T : Int)] rfl rfl Hnew2 (by omega) (by omega) ?_
             intro v7 w7 Hen7 HB7 G7
             have Hb7 := hid (Hb6a.out.grew G7.out Hen5.out.2.symm)
             have Hin7 := hid (Hin6a.out.grew G7.out HB6a.out Hen6.out.2.symm (Nat.le_refl _))))
        have hsb := frms_snoc (firsts k xs) (x.take 100)
        rw [← Hsn.out] at hsb
        have hTt : T = Frm.total (firsts (k + 1) xs) := by rw [HT.out, ← hsb, Frm.frms_length]
        have hse := Frm.endsOf_snoc (firsts k xs) (x.take 100)
        rw [← Hsn.out, ← hTt] at hse
        have Hsb := hid hsb; have Hse := hid hse
        clear hsb hse hTt
        go_roundw
        case rel =>
          refine ⟨k + 1, by omega, by omega, rfl, hid ?_, hid ?_, hid ?_, hid ⟨?_, ?_, ?_⟩, HB7⟩
          · rw [Hsb.out]; exact Hb7.out.1
          · rw [Hsn.out]; exact Hin7.out.1
          · rw [Hse.out]; exact Hen7.out
          · exact Hb6.out.2
          · exact Hb7.out.2
          · exact Hin7.out.2
        case measure => simp [intOf]; omega
  case rest =>
    obtain ⟨Hb, Hin, Hen, Hap, HB⟩ := hcut
    have hsc := scan_all l (by rw [Hl.out]; exact firsts_le 12 xs)
    have htot : Frm.total l = (Frm.frms l).length := (Frm.frms_length l).symm
    have hlen : (Frm.frms l).length ≤ 108 * 12 := by rw [Hl.out]; exact frms_few 12 xs
    have hll : l.length ≤ 12 := by rw [Hl.out, firsts_length]; omega
    obtain ⟨Ab, cb, rfl, hcb, Hrb⟩ := Hb.out.readAt
    obtain ⟨T, hT⟩ : ∃ T, T = (Frm.frms l).length := ⟨_, rfl⟩
    rw [← hT] at hcb Hb Hap hlen htot ⊢
    have Hsc := hid hsc; have Htot := hid htot; have HT := hid hT; clear hsc htot hT
    obtain ⟨Ai, ci, rfl, hsi⟩ := Hin.out.read HB.out.size
    obtain ⟨Ae, ce, rfl, hse⟩ := Hen.out.read HB.out.size
    have Hsi := hid hsi; have Hse := hid hse; clear hsi hse
    have hci := Hsi.out.2.1
    have hce := Hse.out.2.1
    rw [Frm.endsOf_length] at Hse hce ⊢
    have Ht4 := hid (Ht.out.below HB.out)
    go_wp2_with fail
    have hcc := scan_at w2.heap.size Ab T cb (Frm.frms l) wc HT.out (by omega) hcb Ht4.out Hrb.out
    refine hcc.mono ?_; clear hcc
    rintro e w5 ⟨v5, rfl, hO5, hB5⟩
    rw [Hsc.out] at hO5 ⊢
    rw [Htot.out]
    have Hsi5 := hid (Hsi.out.grow hB5)
    have E5 := hid hB5; clear hB5
    obtain ⟨A5, c5, rfl, hs5⟩ := hO5.read
    have Hs5 := hid hs5; clear hO5 hs5
    go_wp2_with fail
    have hcc := same_at A5 l.length c5 l Ai l.length ci l w5 (by omega) Hs5.out Hsi5.out
    refine hcc.mono ?_; clear hcc
    rintro e w6 ⟨rfl, hE6⟩
    rw [show decide (l = l) = true from decide_eq_true rfl]
    have E6 := hid (below_all E5.out hE6); clear hE6 Hs5 Hsi5
    have HB6 := hid (below_then HB.out HB.out.size E6.out)
    have HBf := hid (below_all HB3.out HB6.out)
    by_cases h0 : at0 < 0
    · go_wp2
      go_ret
      exact ⟨rfl, HBf.out⟩
    by_cases hT : (T : Int) ≤ at0
    · go_wp2
      go_ret
      exact ⟨rfl, HBf.out⟩
    obtain ⟨p, rfl⟩ := Int.eq_ofNat_of_zero_le (by omega : 0 ≤ at0)
    have hpT : p < T := by omega
    have Hse6 := hid (Hse.out.grow E6.out)
    have Hsi6 := hid (Hsi.out.grow E6.out)
    have Hb6 := hid (Hb.out.below E6.out)
    have Ht6 := hid (Ht4.out.below E6.out)
    clear Hse Hsi Ht4 Hb Hrb
    have Htl : Hid (T = Frm.total l) := Htot.out.symm
    clear hT h0
    have hpTI : ¬ ((T : Int) ≤ (p : Int)) := by omega
    obtain ⟨D, hD⟩ : ∃ D : Nat, D = d.toNat := ⟨_, rfl⟩
    rw [← hD]
    have HD := hid hD; clear hD
    go_wp2_with fail
    go_loopw [19] (fun i wr => ∃ k : Nat, k ≤ l.length ∧ i = .int .i64 k ∧ Hid (Frm.total (l.take k) ≤ p) ∧ w6 = wr) (fun i _ => 12 - (intOf i).toNat)
    case atStart => exact ⟨0, by omega, rfl, hid (by simp [Frm.total]), rfl⟩
    case round =>
      obtain ⟨k, hkl, rfl, Hk1, rfl⟩ := hrel
      by_cases hk : k < l.length
      rotate_left
      · exfalso
        have h1 := Hk1.out
        rw [List.take_of_length_le (by omega), ← Htl.out] at h1
        omega
      obtain ⟨ge, oe, hAe, hce1⟩ := Hse6.out.getI k (by rw [Frm.endsOf_length]; exact hk)
      subst hAe
      rw [Frm.endsOf_get] at hce1
      obtain ⟨z, hz1⟩ : ∃ z, z = Frm.total (l.take (k + 1)) := ⟨_, rfl⟩
      rw [← hz1] at hce1
      have Hz := hid hz1; clear hz1
      have hkI : (k : Int) < (l.length : Int) := by omega
      by_cases hzp : z ≤ p
      · have hzpI : (z : Int) ≤ (p : Int) := by omega
        go_wp2_with fail
        go_roundw
        case rel => exact ⟨k + 1, by omega, rfl, hid (by rw [← Hz.out]; exact hzp), trivial⟩
        case measure => simp [intOf]; omega
      have hzpI : ¬ ((z : Int) ≤ (p : Int)) := by omega
      obtain ⟨a, ha⟩ : ∃ a, a = Frm.total (l.take k) := ⟨_, rfl⟩
      rw [← ha] at Hk1
      have hap : a ≤ p := Hk1.out
      have Ha := hid ha; clear ha
      have Hpz := hid hzp
      have Hmem : Hid (∀ x ∈ l, x.length ≤ 16384) := fun x hx => by rw [Hl.out] at hx; exact Nat.le_trans (firsts_le 12 xs x hx) (by omega)
      have hkl2 : (l.take k).length = k := by rw [List.length_take]; omega
      have Hkl2 := hid hkl2; clear hkl2
      by_cases hD0 : D = 0
      · subst hD0
        have Hcs := hid (Frm.cut_scan l Hmem.out p k hk (by rw [← Ha.out]; exact hap) (by rw [← Hz.out]; omega))
        have hpc : (p : Int) ≤ (cb : Int) := by omega
        go_wp2_with fail
        have hcc := scan_at w2.heap.size Ab p cb ((Frm.frms l).take p) w6 (by rw [List.length_take, ← HT.out]; omega) (by omega) (by omega) Ht6.out ((OB.readSame Hb6.out).take p)
        refine hcc.mono ?_; clear hcc
        rintro e w7 ⟨v7, rfl, hO7, hB7⟩
        rw [Hcs.out] at hO7 ⊢
        rw [← Ha.out]
        have E7 := hid (below_all E6.out hB7)
        have Hse7 := hid (Hse6.out.grow hB7)
        have Hsi7 := hid ((Hsi6.out.grow hB7).take k hkl)
        clear hB7
        obtain ⟨A7, c7, rfl, hs7⟩ := hO7.read
        rw [Hkl2.out] at hs7 ⊢
        have Hs7 := hid hs7; clear hO7 hs7
        go_upto_if 128 with (fail)
        go_cut [22] (fun s wx => s = .int .i64 (a : Int) ∧ w7 = wx)
        case first =>
          by_cases hk0 : k = 0
          · have e : a = 0 := by rw [Ha.out, hk0]; simp [Frm.total]
            have hk0' : ¬ ((0 : Int) < (k : Int)) := by omega
            have He := hid e
            clear e hk0
            go_wp2_with fail
            go_meet
            case rel => exact ⟨by rw [He.out]; rfl, rfl⟩
          · have hk0' : (0 : Int) < (k : Int) := by omega
            obtain ⟨ge', oe', hAe', hce2⟩ := Hse7.out.getI (k - 1) (by rw [Frm.endsOf_length]; omega)
            simp only [Option.some.injEq, Addr.mk.injEq, and_true] at hAe'
            obtain ⟨rfl, rfl⟩ := hAe'
            rw [Frm.endsOf_get, show k - 1 + 1 = k by omega, ← Ha.out] at hce2
            have e1 : ((k : Int) - 1).toNat = k - 1 := by omega
            have e2 : (k : Int) - 1 < (l.length : Int) := by omega
            have e3 : (0 : Int) ≤ (k : Int) - 1 := by omega
            go_wp2_with fail
            go_meet
            case rel => exact ⟨rfl, rfl⟩
        case rest =>
          obtain ⟨rfl, rfl⟩ := hcut
          go_wp2_with fail
          have hcc := same_at A7 k c7 (l.take k) Ai k ci (l.take k) w7 (by omega) Hs7.out Hsi7.out
          refine hcc.mono ?_; clear hcc
          rintro e w8 ⟨rfl, hE8⟩
          rw [show decide (l.take k = l.take k) = true from decide_eq_true rfl]
          have HBf := hid (below_all HB3.out (below_then HB.out HB.out.size (below_all E7.out hE8)))
          clear hE8
          go_wp2
          go_ret
          exact ⟨rfl, HBf.out⟩
      -- a byte is turned
      have hd0 : d ≠ 0 := fun e => hD0 (by rw [HD.out, e]; rfl)
      have hpL : p < (Frm.frms l).length := by rw [← HT.out]; exact hpT
      obtain ⟨gb, cb', hbe, hgb1, hgb2, -, hcells⟩ := Hb6.out.cellAt (by omega)
      simp only [Value.slice.injEq] at hbe
      obtain ⟨rfl, -, -⟩ := hbe
      obtain ⟨c, hc⟩ : ∃ c, (Frm.frms l)[p]? = some c := ⟨_, List.getElem?_eq_getElem hpL⟩
      have hcp := hcells p hpL
      rw [show (Frm.frms l)[p] = c by rw [List.getElem?_eq_getElem hpL] at hc; exact Option.some.inj hc] at hcp
      obtain ⟨hcc1, hcf⟩ := hcp
      obtain ⟨R, hR, hR4⟩ := Frm.turn_scan l Hmem.out p k hk (by rw [← Ha.out]; exact hap) (by rw [← Hz.out]; omega) c d hc hd0
      rw [← Ha.out] at hR4
      obtain ⟨u, hu⟩ : ∃ u, u = c ^^^ d := ⟨_, rfl⟩
      rw [← hu] at hR
      have hxor : bits .xor .u8 (c.toNat : Int) (D : Int) = (u.toNat : Int) := by rw [HD.out, hu]; exact xor_bytes c d
      have HR := hid hR; have HR4 := hid hR4
      have Hcc1 := hid hcc1; have Hcf := hid hcf
      have hst := Hb6.out.stored HT.out p u
      have hBW : Below w3.heap.size w3 (w6.setCell ⟨gb, p, none⟩ (.int .u8 (u.toNat : Int))) := (below_then HB.out HB.out.size E6.out).setCell hgb1 _
      have hinW := (Hin.out.ext E6.out HB.out.size).setCell ⟨gb, p, none⟩ (.int .u8 (u.toNat : Int)) hgb1 (fun k' hk' e => by subst e; exact Hap.out.1.symm k' hk' rfl)
      have henW := (Hen.out.ext E6.out HB.out.size).setCell ⟨gb, p, none⟩ (.int .u8 (u.toNat : Int)) hgb1 (fun k' hk' e => by subst e; exact Hap.out.2.1.symm k' hk' rfl)
      have HsiW := hid (hinW.readSame hBW.size)
      have HseW0 := hid (henW.readSame hBW.size)
      have hsW := HseW0.out
      have HrbW := hid (OB.readSame hst)
      have HBW := hid hBW
      have HtW := hid (Ht.out.below hBW)
      have hDI : ¬ ((D : Int) = 0) := by omega
      have hDb : ((D : Int) == 0) = false := by rw [beq_eq_false_iff_ne]; exact hDI
      have hDb' : ((D : Int) != 0) = true := by rw [bne_iff_ne]; exact hDI
      clear hR hR4 hcc1 hcf hst hBW hinW henW hsW hcells hu hc
      have k1 := Hcc1.out
      have k2 := Hcf.out
      go_wp2_with fail
      generalize hWw : w6.setCell ⟨gb, p, none⟩ (.int .u8 (u.toNat : Int)) = W at HsiW HseW0 HrbW HBW HtW ⊢
      have HseW : Hid (SlR Rep.i64 W (· < W.heap.size) (some ⟨ge, oe, none⟩) (Frm.endsOf l).length ce (Frm.endsOf l)) := HseW0
      clear hWw k1 k2 Hcc1 Hcf
      have hcc := scan_at w2.heap.size (some ⟨gb, 0, none⟩) T cb ((Frm.frms l).set p u) W (by rw [List.length_set]; exact HT.out) (by omega) hcb HtW.out HrbW.out
      refine hcc.mono ?_; clear hcc
      rintro e w8 ⟨v8, rfl, hO8, hB8⟩
      have HB8 := hid (below_then HBW.out HBW.out.size hB8)
      have Hse8 := hid (HseW.out.grow hB8)
      have Hsi8 := hid ((HsiW.out.grow hB8).take k hkl)
      clear hB8
      by_cases h4 : 4 ≤ p - a
      · rw [HR.out, HR4.out h4, List.append_nil] at hO8 ⊢
        rw [← Ha.out]
        obtain ⟨A8, c8, rfl, hs8⟩ := hO8.read
        rw [Hkl2.out] at hs8 ⊢
        have Hs8 := hid hs8; clear hO8 hs8
        have h4I : ¬ ((p : Int) - (a : Int) < 4) := by omega
        have hwr : IntKind.i64.wrap ((p : Int) - (a : Int)) = (p : Int) - (a : Int) := by rw [IntKind.wrap_i64]; omega
        go_upto_if 128 with (fail)
        go_cut [22] (fun s wx => s = .int .i64 (a : Int) ∧ w8 = wx)
        case first =>
          by_cases hk0 : k = 0
          · have e : a = 0 := by rw [Ha.out, hk0]; simp [Frm.total]
            have hk0' : ¬ ((0 : Int) < (k : Int)) := by omega
            have He := hid e
            clear e hk0
            go_wp2_with fail
            go_meet
            case rel => exact ⟨by rw [He.out]; rfl, rfl⟩
          · have hk0' : (0 : Int) < (k : Int) := by omega
            obtain ⟨ge', oe', hAe', hce2⟩ := Hse8.out.getI (k - 1) (by rw [Frm.endsOf_length]; omega)
            simp only [Option.some.injEq, Addr.mk.injEq, and_true] at hAe'
            obtain ⟨rfl, rfl⟩ := hAe'
            rw [Frm.endsOf_get, show k - 1 + 1 = k by omega, ← Ha.out] at hce2
            have e1 : ((k : Int) - 1).toNat = k - 1 := by omega
            have e2 : (k : Int) - 1 < (l.length : Int) := by omega
            have e3 : (0 : Int) ≤ (k : Int) - 1 := by omega
            go_wp2_with fail
            go_meet
            case rel => exact ⟨rfl, rfl⟩
        case rest =>
          obtain ⟨rfl, rfl⟩ := hcut
          go_wp2_with fail
          have hcc := same_at A8 k c8 (l.take k) Ai k ci (l.take k) w8 (by omega) Hs8.out Hsi8.out
          refine hcc.mono ?_; clear hcc
          rintro e w9 ⟨rfl, hE9⟩
          rw [show decide (l.take k = l.take k) = true from decide_eq_true rfl]
          have HBf := hid (below_all HB3.out (below_then HB8.out HB8.out.size hE9))
          clear hE9
          go_wp2
          go_ret
          exact ⟨rfl, HBf.out⟩
      · have hlS : k ≤ (Frm.scan ((Frm.frms l).set p u)).length := by rw [HR.out, List.length_append, Hkl2.out]; omega
        have hMS : a ≤ Frm.total (Frm.scan ((Frm.frms l).set p u)) := by rw [HR.out, Ha.out]; unfold Frm.total; rw [List.map_append, List.sum_append]; omega
        have hMb : Frm.total (Frm.scan ((Frm.frms l).set p u)) ≤ T := by
          have := (Frm.scan_spec _ ((Frm.frms l).set p u) (Nat.lt_succ_self _)).elim fun _ h => h.2.2.1
          rw [List.length_set, ← HT.out] at this; exact this
        have htk : (Frm.scan ((Frm.frms l).set p u)).take k = l.take k := by
          rw [HR.out, List.take_append_of_le_length (by rw [Hkl2.out]; exact Nat.le_refl _), List.take_of_length_le (by rw [Hkl2.out]; exact Nat.le_refl _)]
        obtain ⟨A8, c8, rfl, hs8⟩ := hO8.read
        obtain ⟨M, hM⟩ : ∃ M, M = Frm.total (Frm.scan ((Frm.frms l).set p u)) := ⟨_, rfl⟩
        obtain ⟨LS, hLS⟩ : ∃ L, L = (Frm.scan ((Frm.frms l).set p u)).length := ⟨_, rfl⟩
        have hsk := hs8.take k hlS
        rw [htk] at hsk
        have hc8 := hs8.2.1
        rw [← hLS] at hlS hc8 ⊢
        rw [← hM] at hMS hMb ⊢
        have Hs8 := hid hsk
        clear hO8 hs8 hsk htk hLS hM HR HR4
        have h4I : (p : Int) - (a : Int) < 4 := by omega
        have hwr : IntKind.i64.wrap ((p : Int) - (a : Int)) = (p : Int) - (a : Int) := by rw [IntKind.wrap_i64]; omega
        go_upto_if 128 with (fail)
        go_cut [22] (fun s wx => s = .int .i64 (a : Int) ∧ w8 = wx)
        case first =>
          by_cases hk0 : k = 0
          · have e : a = 0 := by rw [Ha.out, hk0]; simp [Frm.total]
            have hk0' : ¬ ((0 : Int) < (k : Int)) := by omega
            have He := hid e
            clear e hk0
            go_wp2_with fail
            go_meet
            case rel => exact ⟨by rw [He.out]; rfl, rfl⟩
          · have hk0' : (0 : Int) < (k : Int) := by omega
            obtain ⟨ge', oe', hAe', hce2⟩ := Hse8.out.getI (k - 1) (by rw [Frm.endsOf_length]; omega)
            simp only [Option.some.injEq, Addr.mk.injEq, and_true] at hAe'
            obtain ⟨rfl, rfl⟩ := hAe'
            rw [Frm.endsOf_get, show k - 1 + 1 = k by omega, ← Ha.out] at hce2
            have e1 : ((k : Int) - 1).toNat = k - 1 := by omega
            have e2 : (k : Int) - 1 < (l.length : Int) := by omega
            have e3 : (0 : Int) ≤ (k : Int) - 1 := by omega
            go_wp2_with fail
            go_meet
            case rel => exact ⟨rfl, rfl⟩
        case rest =>
          obtain ⟨rfl, rfl⟩ := hcut
          go_wp2_with fail
          refine wp_drawn [isV (.slice A8 LS c8), isV (.int .i64 (LS : Int)), isV (.int .i64 (k : Int)), isV (.bool true), isV (.bool true), isV (.int .i64 (M : Int)), isV (.int .i64 (a : Int)), isV (.bool true), isV (.bool true), isV (.bool true), isV (.slice A8 LS c8), isV (.int .i64 (k : Int)), isV (.slice A8 k c8), isV (.slice Ai l.length ci), isV (.int .i64 (k : Int)), isV (.slice Ai k ci), isV (.bool true), isV (.bool true), isV (.bool true)] (by kernel_rfl) ?r35hok ?r35steps ?r35fin
          case r35hok => kernel_rfl
          case r35steps =>
            refine ⟨?r35s0, ?r35s1, ?r35s2, ?r35s3, ?r35s4, ?r35s5, ?r35s6, ?r35s7, ?r35s8, ?r35s9, ?r35s10, ?r35s11, ?r35s12, ?r35s13, ?r35s14, ?r35s15, ?r35s16, ?r35s17, ?r35s18, trivial⟩
            case r35s1 =>
              intro v W hE hd; simp only [Region.wanted, ↓reduceIte]; (try simp [deps, waitsOn, Region.binds, knowing, isV, ownsV, anyV] at hd); simp only [putAll, List.take_succ_cons, List.take_zero, List.drop_succ_cons, List.drop_zero, Act.put, List.setIfInBounds_toArray, List.set_cons_zero, List.set_cons_succ, Nat.zero_add, Nat.reduceAdd]
              go_simp
              exact ⟨Below.refl _ _, rfl⟩
            case r35s3 =>
              intro v W hE hd; simp only [Region.wanted, ↓reduceIte]; (try simp [deps, waitsOn, Region.binds, knowing, isV, ownsV, anyV] at hd); simp only [putAll, List.take_succ_cons, List.take_zero, List.drop_succ_cons, List.drop_zero, Act.put, List.setIfInBounds_toArray, List.set_cons_zero, List.set_cons_succ, Nat.zero_add, Nat.reduceAdd]
              have e1 : (k : Int) ≤ (LS : Int) := by omega
              go_simp
              exact ⟨Below.refl _ _, rfl⟩
            case r35s5 =>
              intro v W hE hd; (try simp [deps, waitsOn, Region.binds, knowing, isV, ownsV, anyV] at hd); simp only [putAll, List.take_succ_cons, List.take_zero, List.drop_succ_cons, List.drop_zero, Act.put, List.setIfInBounds_toArray, List.set_cons_zero, List.set_cons_succ, Nat.zero_add, Nat.reduceAdd]; rw [if_pos (by simp [Region.wanted, yielded, hd])]
              go_simp
              exact ⟨Below.refl _ _, rfl⟩
            case r35s6 =>
              intro v W hE hd; (try simp [deps, waitsOn, Region.binds, knowing, isV, ownsV, anyV] at hd); simp only [putAll, List.take_succ_cons, List.take_zero, List.drop_succ_cons, List.drop_zero, Act.put, List.setIfInBounds_toArray, List.set_cons_zero, List.set_cons_succ, Nat.zero_add, Nat.reduceAdd]; rw [if_pos (by simp [Region.wanted, yielded, hd])]
              go_simp
              exact ⟨Below.refl _ _, rfl⟩
            case r35s7 =>
              intro v W hE hd; (try simp [deps, waitsOn, Region.binds, knowing, isV, ownsV, anyV] at hd); simp only [putAll, List.take_succ_cons, List.take_zero, List.drop_succ_cons, List.drop_zero, Act.put, List.setIfInBounds_toArray, List.set_cons_zero, List.set_cons_succ, Nat.zero_add, Nat.reduceAdd]; rw [if_pos (by simp [Region.wanted, yielded, hd])]
              have e1 : (a : Int) ≤ (M : Int) := by omega
              go_simp
              exact ⟨Below.refl _ _, rfl⟩
            case r35s8 =>
              intro v W hE hd; simp only [Region.wanted, ↓reduceIte]; (try simp [deps, waitsOn, Region.binds, knowing, isV, ownsV, anyV] at hd); simp only [putAll, List.take_succ_cons, List.take_zero, List.drop_succ_cons, List.drop_zero, Act.put, List.setIfInBounds_toArray, List.set_cons_zero, List.set_cons_succ, Nat.zero_add, Nat.reduceAdd]
              go_simp
              exact ⟨Below.refl _ _, rfl⟩
            case r35s10 =>
              intro v W hE hd; (try simp [deps, waitsOn, Region.binds, knowing, isV, ownsV, anyV] at hd); simp only [putAll, List.take_succ_cons, List.take_zero, List.drop_succ_cons, List.drop_zero, Act.put, List.setIfInBounds_toArray, List.set_cons_zero, List.set_cons_succ, Nat.zero_add, Nat.reduceAdd]; rw [if_pos (by simp [Region.wanted, yielded, hd])]
              go_simp
              exact ⟨Below.refl _ _, rfl⟩
            case r35s11 =>
              intro v W hE hd; (try simp [deps, waitsOn, Region.binds, knowing, isV, ownsV, anyV] at hd); simp only [putAll, List.take_succ_cons, List.take_zero, List.drop_succ_cons, List.drop_zero, Act.put, List.setIfInBounds_toArray, List.set_cons_zero, List.set_cons_succ, Nat.zero_add, Nat.reduceAdd]; rw [if_pos (by simp [Region.wanted, yielded, hd])]
              go_simp
              exact ⟨Below.refl _ _, rfl⟩
            case r35s12 =>
              intro v W hE hd; (try simp [deps, waitsOn, Region.binds, knowing, isV, ownsV, anyV] at hd); simp only [putAll, List.take_succ_cons, List.take_zero, List.drop_succ_cons, List.drop_zero, Act.put, List.setIfInBounds_toArray, List.set_cons_zero, List.set_cons_succ, Nat.zero_add, Nat.reduceAdd]; rw [if_pos (by simp [Region.wanted, yielded, hd])]
              have e1 : (k : Int) ≤ (c8 : Int) := by omega
              go_simp
              exact ⟨Below.refl _ _, rfl⟩
            case r35s13 =>
              intro v W hE hd; (try simp [deps, waitsOn, Region.binds, knowing, isV, ownsV, anyV] at hd); simp only [putAll, List.take_succ_cons, List.take_zero, List.drop_succ_cons, List.drop_zero, Act.put, List.setIfInBounds_toArray, List.set_cons_zero, List.set_cons_succ, Nat.zero_add, Nat.reduceAdd]; rw [if_pos (by simp [Region.wanted, yielded, hd])]
              go_simp
              exact ⟨Below.refl _ _, rfl⟩
            case r35s14 =>
              intro v W hE hd; (try simp [deps, waitsOn, Region.binds, knowing, isV, ownsV, anyV] at hd); simp only [putAll, List.take_succ_cons, List.take_zero, List.drop_succ_cons, List.drop_zero, Act.put, List.setIfInBounds_toArray, List.set_cons_zero, List.set_cons_succ, Nat.zero_add, Nat.reduceAdd]; rw [if_pos (by simp [Region.wanted, yielded, hd])]
              go_simp
              exact ⟨Below.refl _ _, rfl⟩
            case r35s15 =>
              intro v W hE hd; (try simp [deps, waitsOn, Region.binds, knowing, isV, ownsV, anyV] at hd); simp only [putAll, List.take_succ_cons, List.take_zero, List.drop_succ_cons, List.drop_zero, Act.put, List.setIfInBounds_toArray, List.set_cons_zero, List.set_cons_succ, Nat.zero_add, Nat.reduceAdd]; rw [if_pos (by simp [Region.wanted, yielded, hd])]
              have e1 : (k : Int) ≤ (ci : Int) := by omega
              go_simp
              exact ⟨Below.refl _ _, rfl⟩
            case r35s16 =>
              intro v W hE hd; (try simp [deps, waitsOn, Region.binds, knowing, isV, ownsV, anyV] at hd); simp only [putAll, List.take_succ_cons, List.take_zero, List.drop_succ_cons, List.drop_zero, Act.put, List.setIfInBounds_toArray, List.set_cons_zero, List.set_cons_succ, Nat.zero_add, Nat.reduceAdd]; rw [if_pos (by simp [Region.wanted, yielded, hd])]
              go_simp
              have hcc := same_at A8 k c8 (l.take k) Ai k ci (l.take k) W (by omega) (Hs8.out.grow hE) (Hsi8.out.grow hE)
              refine hcc.mono ?_; clear hcc
              rintro e w' ⟨rfl, hB⟩
              rw [show decide (l.take k = l.take k) = true from decide_eq_true rfl]
              have HB := hid hB; clear hB
              go_simp
              exact ⟨HB.out, rfl⟩
            case r35s17 =>
              intro v W hE hd; simp only [Region.wanted, ↓reduceIte]; (try simp [deps, waitsOn, Region.binds, knowing, isV, ownsV, anyV] at hd); simp only [putAll, List.take_succ_cons, List.take_zero, List.drop_succ_cons, List.drop_zero, Act.put, List.setIfInBounds_toArray, List.set_cons_zero, List.set_cons_succ, Nat.zero_add, Nat.reduceAdd]
              go_simp
              exact ⟨Below.refl _ _, rfl⟩
            all_goals (intro v W hE hd; simp only [Region.wanted, ↓reduceIte]; (try simp [deps, waitsOn, Region.binds, knowing, isV, ownsV, anyV] at hd); simp only [putAll, List.take_succ_cons, List.take_zero, List.drop_succ_cons, List.drop_zero, Act.put, List.setIfInBounds_toArray, List.set_cons_zero, List.set_cons_succ, Nat.zero_add, Nat.reduceAdd]; go_simp; exact ⟨Below.refl _ _, rfl⟩)
          case r35fin =>
            rintro v w9 hE hall
            have e18 : v 18 = .bool true := by
              obtain ⟨_, _, _, _, _, _, _, _, _, _, _, _, _, _, _, _, _, _, h, _⟩ := hall
              exact h
            simp only [putAll, List.take_succ_cons, List.take_zero, List.drop_succ_cons, List.drop_zero, Act.put, List.setIfInBounds_toArray, List.set_cons_zero, List.set_cons_succ, Nat.zero_add, Nat.reduceAdd]
            rw [e18]
            have HBf := hid (below_all HB3.out (below_then HB8.out HB8.out.size hE))
            clear hall e18 hE
            go_wp2
            go_ret
            exact ⟨rfl, HBf.out⟩
end Go.Proofs.Ytjfggfmhchoobaa
