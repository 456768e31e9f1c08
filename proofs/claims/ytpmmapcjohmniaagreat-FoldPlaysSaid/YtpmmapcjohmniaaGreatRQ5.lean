/- The reference's Load. Printed by wip/tools/gen_refload.py. -/
import Derived.Test.YtpmmapcjohmniaaGreatRQ4
namespace Go.Proofs.YtpmmapcjohmniaaGreat
open Go Go.RowKit
set_option linter.unusedSimpArgs false
set_option linter.unusedVariables false

set_option maxRecDepth 100000 in
set_option maxHeartbeats 8000000 in
theorem refLoad_at {w : World} {S : Nat → Prop} {s : Nat} {df : DefV} {D : Ents} (h : RefSt w S s df D) {A : Option Addr} {n c : Nat} {l : Ents} (hl : SlR REnt w (Out S w) A n c l) (hlen : l.length < 1000000) (hSlt : ∀ k, S k → k < w.heap.size) :
    Calls Tryz.prog 9 #[.pointer (some ⟨s, 0, none⟩), .slice A n c] w fun x w' => x = .returned (.int .i64 (loadE df l)) ∧ RefSt w' S s df (loadF df l D) ∧ Kept2 s s w w' := by
  have hn := hid hl.1
  have hnc := hl.2.1
  have hcm := hl.2.2.1
  have HSt := hid h
  have HL := hid hl
  have Hlen := hid hlen
  have hst := str_toList
  obtain ⟨_, _, _, _, c0, -, -, -, -, -, -⟩ := h.cells
  have C0 := hid c0
  clear h hl c0
  have HNO := hid (show ∀ W, Ext w W → okE df l = false → Ending.returned (.int .i64 1) = .returned (.int .i64 (loadE df l)) ∧ RefSt W S s df (loadF df l D) ∧ Kept2 s s w W from fun W hE ho =>
    ⟨by rw [loadE_no ho], by rw [loadF_no ho]; exact HSt.out.ext hE, Kept2.of_ext hE⟩)
  go_enter Tryz.func9, Tryz.ntmps9
  go_wp2_with fail
  go_loopw [5] (fun i wr => ∃ k : Nat, k ≤ n ∧ i = .int .i64 (k : Int) ∧ Hid (Ext w wr) ∧ Hid (∀ j, j < k → badE df l j = false)) (fun i _ => n - (intOf i).toNat)
  case atStart => exact ⟨0, by omega, rfl, Below.refl _ _, hid fun j hj => by omega⟩
  case round =>
    obtain ⟨k, hk, rfl, HEr, HN⟩ := hrel
    by_cases hlt : k < n
    · have hkx : k < l.length := by have := hn.out; omega
      have hlt' : (k : Int) < (n : Int) := by omega
      have hk00 : ¬ ((k : Int) < 0) := by omega
      have hk0 : (0 : Int) ≤ (k : Int) := by omega
      have HLr := hid ((slR_out HL.out).grow HEr.out)
      obtain ⟨b, o, rfl, -, f0, f1, hsk⟩ := field_at HLr.out k hkx
      have Hbe := hid (show badE df l k = ((decide (0 < k) && !bytesBefore (gE l (k - 1)).1 l[k].1) || !fitsN l[k].2 || (decide (l[k].2 = 0) && decide (df.kind ≠ 3))) by unfold badE; rw [gE_at hkx])
      have HF1 := hid (show 0 < k → ∃ y, gE l (k - 1) = y ∧ wr.cell? ⟨b, o + (k - 1) * 2, none⟩ = some (.string (str y.1)) from fun h0 => by
        obtain ⟨b2, o2, e2, -, g0, -, -⟩ := field_at HLr.out (k - 1) (by omega)
        simp only [Option.some.injEq, Addr.mk.injEq, and_true] at e2
        obtain ⟨rfl, rfl⟩ := e2
        exact ⟨_, gE_at (by omega), g0⟩)
      have hNk : ∀ j, j < k + 1 → j = k ∨ j < k := fun j hj => by omega
      have HNk := hid hNk
      clear hsk hNk
      generalize l[k].1 = ky at *
      generalize l[k].2 = vl at *
      have Fk := hid f0
      have Fv := hid f1
      have Kc := hid (cell_below HEr.out C0.out)
      clear f0 f1
      have hg1 : 0 < k → IntKind.i64.wrap ((k : Int) - 1) = (k : Int) - 1 ∧ (1 : Int) ≤ (k : Int) ∧ (k : Int) - 1 < (n : Int) ∧ ((k : Int) - 1).toNat = k - 1 := fun h0 => ⟨by rw [IntKind.wrap_i64]; omega, by omega, by omega, by omega⟩
      have hbk := (show badE df l k = ((decide (0 < k) && !bytesBefore (gE l (k - 1)).1 ky) || !fitsN vl || (decide (vl = 0) && !decide (df.kind = 3))) by rw [Hbe.out]; congr 2; by_cases h3 : df.kind = 3 <;> simp [h3])
      have hzz : (vl == 0) = decide (vl = 0) := rfl
      have hkk : (df.kind != 3) = !decide (df.kind = 3) := rfl
      have hpp : decide ((0 : Int) < (k : Int)) = decide (0 < k) := by by_cases h : 0 < k <;> simp [h]
      have HPK := hid (show (decide (0 < k) = true → 0 < k) from fun h => of_decide_eq_true h)
      obtain ⟨y, hy⟩ : ∃ y, y = (gE l (k - 1)).1 := ⟨_, rfl⟩
      have HF2 := hid (show decide (0 < k) = true → wr.cell? ⟨b, o + (k - 1) * 2, none⟩ = some (.string (str y)) from fun h => by
        obtain ⟨y', h1, h2⟩ := HF1.out (of_decide_eq_true h)
        rw [hy, h1]; exact h2)
      have HG1 := hid (show decide (0 < k) = true → IntKind.i64.wrap ((k : Int) - 1) = (k : Int) - 1 ∧ (1 : Int) ≤ (k : Int) ∧ (k : Int) - 1 < (n : Int) ∧ ((k : Int) - 1).toNat = k - 1 from fun h => hg1 (of_decide_eq_true h))
      rw [← hy, ← tb_less] at hbk
      have HPP := hid hpp
      have HZZ := hid hzz
      have HKK := hid hkk
      clear hg1 hpp hzz hkk Hbe HF1 hy
      generalize hbz : decide (0 < k) = bz at hbk HF2 HG1 HPP HPK
      generalize hls : Op.bytesLess y ky = ls at hbk
      generalize hfb : fitsN vl = fb at hbk
      generalize hzb : decide (vl = 0) = zb at hbk HZZ
      generalize hkb : decide (df.kind = 3) = kb at hbk HKK
      have Hls := hid hls; have Hfb := hid hfb; have Hkb := hid hkb
      have Hbz := hid hbz
      clear hbz hls hfb hzb hkb
      obtain ⟨r12, hr12⟩ : ∃ r, r = (bz && !ls) := ⟨_, rfl⟩
      obtain ⟨r18, hr18⟩ : ∃ r, r = (r12 || !fb) := ⟨_, rfl⟩
      obtain ⟨r23, hr23⟩ : ∃ r, r = (!r18 && zb) := ⟨_, rfl⟩
      obtain ⟨r27, hr27⟩ : ∃ r, r = (zb && !kb) := ⟨_, rfl⟩
      obtain ⟨r28, hr28⟩ : ∃ r, r = (r18 || r27) := ⟨_, rfl⟩
      have Hbk := hid (show badE df l k = r28 by rw [hbk, hr28, hr27, hr18, hr12])
      have H12 := hid hr12; have H18 := hid hr18; have H23 := hid hr23; have H27 := hid hr27; have H28 := hid hr28
      clear hbk hr12 hr18 hr23 hr27 hr28
      go_wp2_with fail
      apply wp_drawn [isV _, isV (.bool bz), isV (.bool bz), isV (bif bz then .slice (some ⟨b, o, none⟩) n c else undef), isV (bif bz then .int .i64 (k : Int) else undef), isV (bif bz then .int .i64 ((k : Int) - 1) else undef), isV (bif bz then .pointer (some ⟨b, o + (k - 1) * 2, none⟩) else undef), isV (bif bz then .pointer (some ⟨b, o + (k - 1) * 2, none⟩) else undef), isV (bif bz then .string (str y) else undef), isV (bif bz then .slice (some ⟨b, o, none⟩) n c else undef), isV (bif bz then .int .i64 (k : Int) else undef), isV (bif bz then .pointer (some ⟨b, o + k * 2, none⟩) else undef), isV (bif bz then .pointer (some ⟨b, o + k * 2, none⟩) else undef), isV (bif bz then .string (str ky) else undef), isV (bif bz then .bool (!ls) else undef), isV (.bool r12), isV (.bool r12), isV (bif r12 then undef else .slice (some ⟨b, o, none⟩) n c), isV (bif r12 then undef else .int .i64 (k : Int)), isV (bif r12 then undef else .pointer (some ⟨b, o + k * 2, none⟩)), isV (bif r12 then undef else .pointer (some ⟨b, o + k * 2 + 1, none⟩)), isV (bif r12 then undef else .int .i64 vl), isV (bif r12 then undef else .bool fb), isV (bif r12 then undef else .bool (!fb)), isV (.bool r18), isV (.bool r18), isV (bif r18 then undef else .slice (some ⟨b, o, none⟩) n c), isV (bif r18 then undef else .int .i64 (k : Int)), isV (bif r18 then undef else .pointer (some ⟨b, o + k * 2, none⟩)), isV (bif r18 then undef else .pointer (some ⟨b, o + k * 2 + 1, none⟩)), isV (bif r18 then undef else .int .i64 vl), isV (bif r18 then undef else .bool zb), isV (bif r18 then undef else .bool zb), isV (bif r23 then .pointer (some ⟨s, 0, none⟩) else undef), isV (bif r23 then .pointer (some ⟨s, 0, none⟩) else undef), isV (bif r23 then .pointer (some ⟨s, 0, none⟩) else undef), isV (bif r23 then .pointer (some ⟨s, 0, none⟩) else undef), isV (bif r23 then .int .i64 df.kind else undef), isV (bif r23 then .bool (!kb) else undef), isV (bif r18 then undef else .bool r27), isV (.bool r28)] (by kernel_rfl)
      · kernel_rfl
      · refine ⟨?ros0, ?ros1, ?ros2, ?ros3, ?ros4, ?ros5, ?ros6, ?ros7, ?ros8, ?ros9, ?ros10, ?ros11, ?ros12, ?ros13, ?ros14, ?ros15, ?ros16, ?ros17, ?ros18, ?ros19, ?ros20, ?ros21, ?ros22, ?ros23, ?ros24, ?ros25, ?ros26, ?ros27, ?ros28, ?ros29, ?ros30, ?ros31, ?ros32, ?ros33, ?ros34, ?ros35, ?ros36, ?ros37, ?ros38, ?ros39, ?ros40, trivial⟩
        case ros0 =>
          intro v W hE hd; simp only [Region.wanted, ↓reduceIte]; (try simp [deps, waitsOn, Region.binds, knowing, isV, ownsV, anyV] at hd); simp only [putAll, List.take_succ_cons, List.take_zero, List.drop_succ_cons, List.drop_zero, Act.put, List.setIfInBounds_toArray, List.set_cons_zero, List.set_cons_succ, Nat.zero_add, Nat.reduceAdd]; go_simp; exact ⟨Below.refl _ _, rfl⟩
        case ros1 =>
          intro v W hE hd; simp only [Region.wanted, ↓reduceIte]; (try simp [deps, waitsOn, Region.binds, knowing, isV, ownsV, anyV] at hd); simp only [putAll, List.take_succ_cons, List.take_zero, List.drop_succ_cons, List.drop_zero, Act.put, List.setIfInBounds_toArray, List.set_cons_zero, List.set_cons_succ, Nat.zero_add, Nat.reduceAdd]
          go_simp
          exact ⟨Below.refl _ _, by show Value.bool _ = _; rw [Hbz.out]⟩
        case ros2 =>
          intro v W hE hd; simp only [Region.wanted, ↓reduceIte]; (try simp [deps, waitsOn, Region.binds, knowing, isV, ownsV, anyV] at hd); simp only [putAll, List.take_succ_cons, List.take_zero, List.drop_succ_cons, List.drop_zero, Act.put, List.setIfInBounds_toArray, List.set_cons_zero, List.set_cons_succ, Nat.zero_add, Nat.reduceAdd]
          go_simp
          exact ⟨Below.refl _ _, rfl⟩
        case ros3 =>
          intro v W hE hd
          cases bz
          · (try simp [deps, waitsOn, Region.binds, knowing, isV, ownsV, anyV] at hd); simp only [putAll, List.take_succ_cons, List.take_zero, List.drop_succ_cons, List.drop_zero, Act.put, List.setIfInBounds_toArray, List.set_cons_zero, List.set_cons_succ, Nat.zero_add, Nat.reduceAdd]; rw [if_neg (by simp [Region.wanted, yielded, hd, undef])]; exact rfl
          · (try simp [deps, waitsOn, Region.binds, knowing, isV, ownsV, anyV] at hd); simp only [putAll, List.take_succ_cons, List.take_zero, List.drop_succ_cons, List.drop_zero, Act.put, List.setIfInBounds_toArray, List.set_cons_zero, List.set_cons_succ, Nat.zero_add, Nat.reduceAdd]; rw [if_pos (by simp [Region.wanted, yielded, hd])]
            go_simp
            exact ⟨Below.refl _ _, rfl⟩
        case ros4 =>
          intro v W hE hd
          cases bz
          · (try simp [deps, waitsOn, Region.binds, knowing, isV, ownsV, anyV] at hd); simp only [putAll, List.take_succ_cons, List.take_zero, List.drop_succ_cons, List.drop_zero, Act.put, List.setIfInBounds_toArray, List.set_cons_zero, List.set_cons_succ, Nat.zero_add, Nat.reduceAdd]; rw [if_neg (by simp [Region.wanted, yielded, hd, undef])]; exact rfl
          · (try simp [deps, waitsOn, Region.binds, knowing, isV, ownsV, anyV] at hd); simp only [putAll, List.take_succ_cons, List.take_zero, List.drop_succ_cons, List.drop_zero, Act.put, List.setIfInBounds_toArray, List.set_cons_zero, List.set_cons_succ, Nat.zero_add, Nat.reduceAdd]; rw [if_pos (by simp [Region.wanted, yielded, hd])]
            go_simp
            exact ⟨Below.refl _ _, rfl⟩
        case ros5 =>
          intro v W hE hd
          cases bz
          · (try simp [deps, waitsOn, Region.binds, knowing, isV, ownsV, anyV] at hd); simp only [putAll, List.take_succ_cons, List.take_zero, List.drop_succ_cons, List.drop_zero, Act.put, List.setIfInBounds_toArray, List.set_cons_zero, List.set_cons_succ, Nat.zero_add, Nat.reduceAdd]; rw [if_neg (by simp [Region.wanted, yielded, hd, undef])]; exact rfl
          · (try simp [deps, waitsOn, Region.binds, knowing, isV, ownsV, anyV] at hd); simp only [putAll, List.take_succ_cons, List.take_zero, List.drop_succ_cons, List.drop_zero, Act.put, List.setIfInBounds_toArray, List.set_cons_zero, List.set_cons_succ, Nat.zero_add, Nat.reduceAdd]; rw [if_pos (by simp [Region.wanted, yielded, hd])]
            obtain ⟨hw, g1, g2, g3⟩ := HG1.out rfl
            go_simp
            exact ⟨Below.refl _ _, rfl⟩
        case ros6 =>
          intro v W hE hd
          cases bz
          · (try simp [deps, waitsOn, Region.binds, knowing, isV, ownsV, anyV] at hd); simp only [putAll, List.take_succ_cons, List.take_zero, List.drop_succ_cons, List.drop_zero, Act.put, List.setIfInBounds_toArray, List.set_cons_zero, List.set_cons_succ, Nat.zero_add, Nat.reduceAdd]; rw [if_neg (by simp [Region.wanted, yielded, hd, undef])]; exact rfl
          · (try simp [deps, waitsOn, Region.binds, knowing, isV, ownsV, anyV] at hd); simp only [putAll, List.take_succ_cons, List.take_zero, List.drop_succ_cons, List.drop_zero, Act.put, List.setIfInBounds_toArray, List.set_cons_zero, List.set_cons_succ, Nat.zero_add, Nat.reduceAdd]; rw [if_pos (by simp [Region.wanted, yielded, hd])]
            obtain ⟨hw, g1, g2, g3⟩ := HG1.out rfl
            go_simp
            exact ⟨Below.refl _ _, rfl⟩
        case ros7 =>
          intro v W hE hd
          cases bz
          · (try simp [deps, waitsOn, Region.binds, knowing, isV, ownsV, anyV] at hd); simp only [putAll, List.take_succ_cons, List.take_zero, List.drop_succ_cons, List.drop_zero, Act.put, List.setIfInBounds_toArray, List.set_cons_zero, List.set_cons_succ, Nat.zero_add, Nat.reduceAdd]; rw [if_neg (by simp [Region.wanted, yielded, hd, undef])]; exact rfl
          · (try simp [deps, waitsOn, Region.binds, knowing, isV, ownsV, anyV] at hd); simp only [putAll, List.take_succ_cons, List.take_zero, List.drop_succ_cons, List.drop_zero, Act.put, List.setIfInBounds_toArray, List.set_cons_zero, List.set_cons_succ, Nat.zero_add, Nat.reduceAdd]; rw [if_pos (by simp [Region.wanted, yielded, hd])]
            go_simp
            exact ⟨Below.refl _ _, rfl⟩
        case ros8 =>
          intro v W hE hd
          cases bz
          · (try simp [deps, waitsOn, Region.binds, knowing, isV, ownsV, anyV] at hd); simp only [putAll, List.take_succ_cons, List.take_zero, List.drop_succ_cons, List.drop_zero, Act.put, List.setIfInBounds_toArray, List.set_cons_zero, List.set_cons_succ, Nat.zero_add, Nat.reduceAdd]; rw [if_neg (by simp [Region.wanted, yielded, hd, undef])]; exact rfl
          · (try simp [deps, waitsOn, Region.binds, knowing, isV, ownsV, anyV] at hd); simp only [putAll, List.take_succ_cons, List.take_zero, List.drop_succ_cons, List.drop_zero, Act.put, List.setIfInBounds_toArray, List.set_cons_zero, List.set_cons_succ, Nat.zero_add, Nat.reduceAdd]; rw [if_pos (by simp [Region.wanted, yielded, hd])]
            have e1 := cell_below hE (HF2.out rfl)
            go_simp
            exact ⟨Below.refl _ _, rfl⟩
        case ros9 =>
          intro v W hE hd
          cases bz
          · (try simp [deps, waitsOn, Region.binds, knowing, isV, ownsV, anyV] at hd); simp only [putAll, List.take_succ_cons, List.take_zero, List.drop_succ_cons, List.drop_zero, Act.put, List.setIfInBounds_toArray, List.set_cons_zero, List.set_cons_succ, Nat.zero_add, Nat.reduceAdd]; rw [if_neg (by simp [Region.wanted, yielded, hd, undef])]; exact rfl
          · (try simp [deps, waitsOn, Region.binds, knowing, isV, ownsV, anyV] at hd); simp only [putAll, List.take_succ_cons, List.take_zero, List.drop_succ_cons, List.drop_zero, Act.put, List.setIfInBounds_toArray, List.set_cons_zero, List.set_cons_succ, Nat.zero_add, Nat.reduceAdd]; rw [if_pos (by simp [Region.wanted, yielded, hd])]
            go_simp
            exact ⟨Below.refl _ _, rfl⟩
        case ros10 =>
          intro v W hE hd
          cases bz
          · (try simp [deps, waitsOn, Region.binds, knowing, isV, ownsV, anyV] at hd); simp only [putAll, List.take_succ_cons, List.take_zero, List.drop_succ_cons, List.drop_zero, Act.put, List.setIfInBounds_toArray, List.set_cons_zero, List.set_cons_succ, Nat.zero_add, Nat.reduceAdd]; rw [if_neg (by simp [Region.wanted, yielded, hd, undef])]; exact rfl
          · (try simp [deps, waitsOn, Region.binds, knowing, isV, ownsV, anyV] at hd); simp only [putAll, List.take_succ_cons, List.take_zero, List.drop_succ_cons, List.drop_zero, Act.put, List.setIfInBounds_toArray, List.set_cons_zero, List.set_cons_succ, Nat.zero_add, Nat.reduceAdd]; rw [if_pos (by simp [Region.wanted, yielded, hd])]
            go_simp
            exact ⟨Below.refl _ _, rfl⟩
        case ros11 =>
          intro v W hE hd
          cases bz
          · (try simp [deps, waitsOn, Region.binds, knowing, isV, ownsV, anyV] at hd); simp only [putAll, List.take_succ_cons, List.take_zero, List.drop_succ_cons, List.drop_zero, Act.put, List.setIfInBounds_toArray, List.set_cons_zero, List.set_cons_succ, Nat.zero_add, Nat.reduceAdd]; rw [if_neg (by simp [Region.wanted, yielded, hd, undef])]; exact rfl
          · (try simp [deps, waitsOn, Region.binds, knowing, isV, ownsV, anyV] at hd); simp only [putAll, List.take_succ_cons, List.take_zero, List.drop_succ_cons, List.drop_zero, Act.put, List.setIfInBounds_toArray, List.set_cons_zero, List.set_cons_succ, Nat.zero_add, Nat.reduceAdd]; rw [if_pos (by simp [Region.wanted, yielded, hd])]
            go_simp
            exact ⟨Below.refl _ _, rfl⟩
        case ros12 =>
          intro v W hE hd
          cases bz
          · (try simp [deps, waitsOn, Region.binds, knowing, isV, ownsV, anyV] at hd); simp only [putAll, List.take_succ_cons, List.take_zero, List.drop_succ_cons, List.drop_zero, Act.put, List.setIfInBounds_toArray, List.set_cons_zero, List.set_cons_succ, Nat.zero_add, Nat.reduceAdd]; rw [if_neg (by simp [Region.wanted, yielded, hd, undef])]; exact rfl
          · (try simp [deps, waitsOn, Region.binds, knowing, isV, ownsV, anyV] at hd); simp only [putAll, List.take_succ_cons, List.take_zero, List.drop_succ_cons, List.drop_zero, Act.put, List.setIfInBounds_toArray, List.set_cons_zero, List.set_cons_succ, Nat.zero_add, Nat.reduceAdd]; rw [if_pos (by simp [Region.wanted, yielded, hd])]
            go_simp
            exact ⟨Below.refl _ _, rfl⟩
        case ros13 =>
          intro v W hE hd
          cases bz
          · (try simp [deps, waitsOn, Region.binds, knowing, isV, ownsV, anyV] at hd); simp only [putAll, List.take_succ_cons, List.take_zero, List.drop_succ_cons, List.drop_zero, Act.put, List.setIfInBounds_toArray, List.set_cons_zero, List.set_cons_succ, Nat.zero_add, Nat.reduceAdd]; rw [if_neg (by simp [Region.wanted, yielded, hd, undef])]; exact rfl
          · (try simp [deps, waitsOn, Region.binds, knowing, isV, ownsV, anyV] at hd); simp only [putAll, List.take_succ_cons, List.take_zero, List.drop_succ_cons, List.drop_zero, Act.put, List.setIfInBounds_toArray, List.set_cons_zero, List.set_cons_succ, Nat.zero_add, Nat.reduceAdd]; rw [if_pos (by simp [Region.wanted, yielded, hd])]
            have e1 := cell_below hE Fk.out
            go_simp
            exact ⟨Below.refl _ _, rfl⟩
        case ros14 =>
          intro v W hE hd
          cases bz
          · (try simp [deps, waitsOn, Region.binds, knowing, isV, ownsV, anyV] at hd); simp only [putAll, List.take_succ_cons, List.take_zero, List.drop_succ_cons, List.drop_zero, Act.put, List.setIfInBounds_toArray, List.set_cons_zero, List.set_cons_succ, Nat.zero_add, Nat.reduceAdd]; rw [if_neg (by simp [Region.wanted, yielded, hd, undef])]; exact rfl
          · (try simp [deps, waitsOn, Region.binds, knowing, isV, ownsV, anyV] at hd); simp only [putAll, List.take_succ_cons, List.take_zero, List.drop_succ_cons, List.drop_zero, Act.put, List.setIfInBounds_toArray, List.set_cons_zero, List.set_cons_succ, Nat.zero_add, Nat.reduceAdd]; rw [if_pos (by simp [Region.wanted, yielded, hd])]
            go_simp
            exact ⟨Below.refl _ _, by show Value.bool _ = _; rw [Hls.out]⟩
        case ros15 =>
          intro v W hE hd; simp only [Region.wanted, ↓reduceIte]; (try simp [deps, waitsOn, Region.binds, knowing, isV, ownsV, anyV] at hd); simp only [putAll, List.take_succ_cons, List.take_zero, List.drop_succ_cons, List.drop_zero, Act.put, List.setIfInBounds_toArray, List.set_cons_zero, List.set_cons_succ, Nat.zero_add, Nat.reduceAdd]
          rw [H12.out]
          cases bz <;> cases ls
          all_goals
            simp only [cond_true, cond_false] at hd
            go_simp
            exact ⟨Below.refl _ _, rfl⟩
        case ros16 =>
          intro v W hE hd; simp only [Region.wanted, ↓reduceIte]; (try simp [deps, waitsOn, Region.binds, knowing, isV, ownsV, anyV] at hd); simp only [putAll, List.take_succ_cons, List.take_zero, List.drop_succ_cons, List.drop_zero, Act.put, List.setIfInBounds_toArray, List.set_cons_zero, List.set_cons_succ, Nat.zero_add, Nat.reduceAdd]
          go_simp
          exact ⟨Below.refl _ _, rfl⟩
        case ros17 =>
          intro v W hE hd
          cases r12
          · (try simp [deps, waitsOn, Region.binds, knowing, isV, ownsV, anyV] at hd); simp only [putAll, List.take_succ_cons, List.take_zero, List.drop_succ_cons, List.drop_zero, Act.put, List.setIfInBounds_toArray, List.set_cons_zero, List.set_cons_succ, Nat.zero_add, Nat.reduceAdd]; rw [if_pos (by simp [Region.wanted, yielded, hd])]
            go_simp
            exact ⟨Below.refl _ _, rfl⟩
          · (try simp [deps, waitsOn, Region.binds, knowing, isV, ownsV, anyV] at hd); simp only [putAll, List.take_succ_cons, List.take_zero, List.drop_succ_cons, List.drop_zero, Act.put, List.setIfInBounds_toArray, List.set_cons_zero, List.set_cons_succ, Nat.zero_add, Nat.reduceAdd]; rw [if_neg (by simp [Region.wanted, yielded, hd, undef])]; exact rfl
        case ros18 =>
          intro v W hE hd
          cases r12
          · (try simp [deps, waitsOn, Region.binds, knowing, isV, ownsV, anyV] at hd); simp only [putAll, List.take_succ_cons, List.take_zero, List.drop_succ_cons, List.drop_zero, Act.put, List.setIfInBounds_toArray, List.set_cons_zero, List.set_cons_succ, Nat.zero_add, Nat.reduceAdd]; rw [if_pos (by simp [Region.wanted, yielded, hd])]
            go_simp
            exact ⟨Below.refl _ _, rfl⟩
          · (try simp [deps, waitsOn, Region.binds, knowing, isV, ownsV, anyV] at hd); simp only [putAll, List.take_succ_cons, List.take_zero, List.drop_succ_cons, List.drop_zero, Act.put, List.setIfInBounds_toArray, List.set_cons_zero, List.set_cons_succ, Nat.zero_add, Nat.reduceAdd]; rw [if_neg (by simp [Region.wanted, yielded, hd, undef])]; exact rfl
        case ros19 =>
          intro v W hE hd
          cases r12
          · (try simp [deps, waitsOn, Region.binds, knowing, isV, ownsV, anyV] at hd); simp only [putAll, List.take_succ_cons, List.take_zero, List.drop_succ_cons, List.drop_zero, Act.put, List.setIfInBounds_toArray, List.set_cons_zero, List.set_cons_succ, Nat.zero_add, Nat.reduceAdd]; rw [if_pos (by simp [Region.wanted, yielded, hd])]
            go_simp
            exact ⟨Below.refl _ _, rfl⟩
          · (try simp [deps, waitsOn, Region.binds, knowing, isV, ownsV, anyV] at hd); simp only [putAll, List.take_succ_cons, List.take_zero, List.drop_succ_cons, List.drop_zero, Act.put, List.setIfInBounds_toArray, List.set_cons_zero, List.set_cons_succ, Nat.zero_add, Nat.reduceAdd]; rw [if_neg (by simp [Region.wanted, yielded, hd, undef])]; exact rfl
        case ros20 =>
          intro v W hE hd
          cases r12
          · (try simp [deps, waitsOn, Region.binds, knowing, isV, ownsV, anyV] at hd); simp only [putAll, List.take_succ_cons, List.take_zero, List.drop_succ_cons, List.drop_zero, Act.put, List.setIfInBounds_toArray, List.set_cons_zero, List.set_cons_succ, Nat.zero_add, Nat.reduceAdd]; rw [if_pos (by simp [Region.wanted, yielded, hd])]
            go_simp
            exact ⟨Below.refl _ _, rfl⟩
          · (try simp [deps, waitsOn, Region.binds, knowing, isV, ownsV, anyV] at hd); simp only [putAll, List.take_succ_cons, List.take_zero, List.drop_succ_cons, List.drop_zero, Act.put, List.setIfInBounds_toArray, List.set_cons_zero, List.set_cons_succ, Nat.zero_add, Nat.reduceAdd]; rw [if_neg (by simp [Region.wanted, yielded, hd, undef])]; exact rfl
        case ros21 =>
          intro v W hE hd
          cases r12
          · (try simp [deps, waitsOn, Region.binds, knowing, isV, ownsV, anyV] at hd); simp only [putAll, List.take_succ_cons, List.take_zero, List.drop_succ_cons, List.drop_zero, Act.put, List.setIfInBounds_toArray, List.set_cons_zero, List.set_cons_succ, Nat.zero_add, Nat.reduceAdd]; rw [if_pos (by simp [Region.wanted, yielded, hd])]
            have e1 := cell_below hE Fv.out
            go_simp
            exact ⟨Below.refl _ _, rfl⟩
          · (try simp [deps, waitsOn, Region.binds, knowing, isV, ownsV, anyV] at hd); simp only [putAll, List.take_succ_cons, List.take_zero, List.drop_succ_cons, List.drop_zero, Act.put, List.setIfInBounds_toArray, List.set_cons_zero, List.set_cons_succ, Nat.zero_add, Nat.reduceAdd]; rw [if_neg (by simp [Region.wanted, yielded, hd, undef])]; exact rfl
        case ros22 =>
          intro v W hE hd
          cases r12
          · (try simp [deps, waitsOn, Region.binds, knowing, isV, ownsV, anyV] at hd); simp only [putAll, List.take_succ_cons, List.take_zero, List.drop_succ_cons, List.drop_zero, Act.put, List.setIfInBounds_toArray, List.set_cons_zero, List.set_cons_succ, Nat.zero_add, Nat.reduceAdd]; rw [if_pos (by simp [Region.wanted, yielded, hd])]
            go_simp
            refine (refFits_at _ W).mono ?_
            rintro x w' ⟨rfl, rfl⟩
            rw [Hfb.out]
            go_simp
            exact ⟨Below.refl _ _, rfl⟩
          · (try simp [deps, waitsOn, Region.binds, knowing, isV, ownsV, anyV] at hd); simp only [putAll, List.take_succ_cons, List.take_zero, List.drop_succ_cons, List.drop_zero, Act.put, List.setIfInBounds_toArray, List.set_cons_zero, List.set_cons_succ, Nat.zero_add, Nat.reduceAdd]; rw [if_neg (by simp [Region.wanted, yielded, hd, undef])]; exact rfl
        case ros23 =>
          intro v W hE hd
          cases r12
          · (try simp [deps, waitsOn, Region.binds, knowing, isV, ownsV, anyV] at hd); simp only [putAll, List.take_succ_cons, List.take_zero, List.drop_succ_cons, List.drop_zero, Act.put, List.setIfInBounds_toArray, List.set_cons_zero, List.set_cons_succ, Nat.zero_add, Nat.reduceAdd]; rw [if_pos (by simp [Region.wanted, yielded, hd])]
            go_simp
            exact ⟨Below.refl _ _, rfl⟩
          · (try simp [deps, waitsOn, Region.binds, knowing, isV, ownsV, anyV] at hd); simp only [putAll, List.take_succ_cons, List.take_zero, List.drop_succ_cons, List.drop_zero, Act.put, List.setIfInBounds_toArray, List.set_cons_zero, List.set_cons_succ, Nat.zero_add, Nat.reduceAdd]; rw [if_neg (by simp [Region.wanted, yielded, hd, undef])]; exact rfl
        case ros24 =>
          intro v W hE hd; simp only [Region.wanted, ↓reduceIte]; (try simp [deps, waitsOn, Region.binds, knowing, isV, ownsV, anyV] at hd); simp only [putAll, List.take_succ_cons, List.take_zero, List.drop_succ_cons, List.drop_zero, Act.put, List.setIfInBounds_toArray, List.set_cons_zero, List.set_cons_succ, Nat.zero_add, Nat.reduceAdd]
          rw [H18.out]
          cases r12 <;> cases fb
          all_goals
            simp only [cond_true, cond_false] at hd
            go_simp
            exact ⟨Below.refl _ _, rfl⟩
        case ros25 =>
          intro v W hE hd; simp only [Region.wanted, ↓reduceIte]; (try simp [deps, waitsOn, Region.binds, knowing, isV, ownsV, anyV] at hd); simp only [putAll, List.take_succ_cons, List.take_zero, List.drop_succ_cons, List.drop_zero, Act.put, List.setIfInBounds_toArray, List.set_cons_zero, List.set_cons_succ, Nat.zero_add, Nat.reduceAdd]
          go_simp
          exact ⟨Below.refl _ _, rfl⟩
        case ros26 =>
          intro v W hE hd
          cases r18
          · (try simp [deps, waitsOn, Region.binds, knowing, isV, ownsV, anyV] at hd); simp only [putAll, List.take_succ_cons, List.take_zero, List.drop_succ_cons, List.drop_zero, Act.put, List.setIfInBounds_toArray, List.set_cons_zero, List.set_cons_succ, Nat.zero_add, Nat.reduceAdd]; rw [if_pos (by simp [Region.wanted, yielded, hd])]
            go_simp
            exact ⟨Below.refl _ _, rfl⟩
          · (try simp [deps, waitsOn, Region.binds, knowing, isV, ownsV, anyV] at hd); simp only [putAll, List.take_succ_cons, List.take_zero, List.drop_succ_cons, List.drop_zero, Act.put, List.setIfInBounds_toArray, List.set_cons_zero, List.set_cons_succ, Nat.zero_add, Nat.reduceAdd]; rw [if_neg (by simp [Region.wanted, yielded, hd, undef])]; exact rfl
        case ros27 =>
          intro v W hE hd
          cases r18
          · (try simp [deps, waitsOn, Region.binds, knowing, isV, ownsV, anyV] at hd); simp only [putAll, List.take_succ_cons, List.take_zero, List.drop_succ_cons, List.drop_zero, Act.put, List.setIfInBounds_toArray, List.set_cons_zero, List.set_cons_succ, Nat.zero_add, Nat.reduceAdd]; rw [if_pos (by simp [Region.wanted, yielded, hd])]
            go_simp
            exact ⟨Below.refl _ _, rfl⟩
          · (try simp [deps, waitsOn, Region.binds, knowing, isV, ownsV, anyV] at hd); simp only [putAll, List.take_succ_cons, List.take_zero, List.drop_succ_cons, List.drop_zero, Act.put, List.setIfInBounds_toArray, List.set_cons_zero, List.set_cons_succ, Nat.zero_add, Nat.reduceAdd]; rw [if_neg (by simp [Region.wanted, yielded, hd, undef])]; exact rfl
        case ros28 =>
          intro v W hE hd
          cases r18
          · (try simp [deps, waitsOn, Region.binds, knowing, isV, ownsV, anyV] at hd); simp only [putAll, List.take_succ_cons, List.take_zero, List.drop_succ_cons, List.drop_zero, Act.put, List.setIfInBounds_toArray, List.set_cons_zero, List.set_cons_succ, Nat.zero_add, Nat.reduceAdd]; rw [if_pos (by simp [Region.wanted, yielded, hd])]
            go_simp
            exact ⟨Below.refl _ _, rfl⟩
          · (try simp [deps, waitsOn, Region.binds, knowing, isV, ownsV, anyV] at hd); simp only [putAll, List.take_succ_cons, List.take_zero, List.drop_succ_cons, List.drop_zero, Act.put, List.setIfInBounds_toArray, List.set_cons_zero, List.set_cons_succ, Nat.zero_add, Nat.reduceAdd]; rw [if_neg (by simp [Region.wanted, yielded, hd, undef])]; exact rfl
        case ros29 =>
          intro v W hE hd
          cases r18
          · (try simp [deps, waitsOn, Region.binds, knowing, isV, ownsV, anyV] at hd); simp only [putAll, List.take_succ_cons, List.take_zero, List.drop_succ_cons, List.drop_zero, Act.put, List.setIfInBounds_toArray, List.set_cons_zero, List.set_cons_succ, Nat.zero_add, Nat.reduceAdd]; rw [if_pos (by simp [Region.wanted, yielded, hd])]
            go_simp
            exact ⟨Below.refl _ _, rfl⟩
          · (try simp [deps, waitsOn, Region.binds, knowing, isV, ownsV, anyV] at hd); simp only [putAll, List.take_succ_cons, List.take_zero, List.drop_succ_cons, List.drop_zero, Act.put, List.setIfInBounds_toArray, List.set_cons_zero, List.set_cons_succ, Nat.zero_add, Nat.reduceAdd]; rw [if_neg (by simp [Region.wanted, yielded, hd, undef])]; exact rfl
        case ros30 =>
          intro v W hE hd
          cases r18
          · (try simp [deps, waitsOn, Region.binds, knowing, isV, ownsV, anyV] at hd); simp only [putAll, List.take_succ_cons, List.take_zero, List.drop_succ_cons, List.drop_zero, Act.put, List.setIfInBounds_toArray, List.set_cons_zero, List.set_cons_succ, Nat.zero_add, Nat.reduceAdd]; rw [if_pos (by simp [Region.wanted, yielded, hd])]
            have e1 := cell_below hE Fv.out
            go_simp
            exact ⟨Below.refl _ _, rfl⟩
          · (try simp [deps, waitsOn, Region.binds, knowing, isV, ownsV, anyV] at hd); simp only [putAll, List.take_succ_cons, List.take_zero, List.drop_succ_cons, List.drop_zero, Act.put, List.setIfInBounds_toArray, List.set_cons_zero, List.set_cons_succ, Nat.zero_add, Nat.reduceAdd]; rw [if_neg (by simp [Region.wanted, yielded, hd, undef])]; exact rfl
        case ros31 =>
          intro v W hE hd
          cases r18
          · (try simp [deps, waitsOn, Region.binds, knowing, isV, ownsV, anyV] at hd); simp only [putAll, List.take_succ_cons, List.take_zero, List.drop_succ_cons, List.drop_zero, Act.put, List.setIfInBounds_toArray, List.set_cons_zero, List.set_cons_succ, Nat.zero_add, Nat.reduceAdd]; rw [if_pos (by simp [Region.wanted, yielded, hd])]
            have hz := HZZ.out
            go_simp
            exact ⟨Below.refl _ _, rfl⟩
          · (try simp [deps, waitsOn, Region.binds, knowing, isV, ownsV, anyV] at hd); simp only [putAll, List.take_succ_cons, List.take_zero, List.drop_succ_cons, List.drop_zero, Act.put, List.setIfInBounds_toArray, List.set_cons_zero, List.set_cons_succ, Nat.zero_add, Nat.reduceAdd]; rw [if_neg (by simp [Region.wanted, yielded, hd, undef])]; exact rfl
        case ros32 =>
          intro v W hE hd
          cases r18
          · (try simp [deps, waitsOn, Region.binds, knowing, isV, ownsV, anyV] at hd); simp only [putAll, List.take_succ_cons, List.take_zero, List.drop_succ_cons, List.drop_zero, Act.put, List.setIfInBounds_toArray, List.set_cons_zero, List.set_cons_succ, Nat.zero_add, Nat.reduceAdd]; rw [if_pos (by simp [Region.wanted, yielded, hd])]
            go_simp
            exact ⟨Below.refl _ _, rfl⟩
          · (try simp [deps, waitsOn, Region.binds, knowing, isV, ownsV, anyV] at hd); simp only [putAll, List.take_succ_cons, List.take_zero, List.drop_succ_cons, List.drop_zero, Act.put, List.setIfInBounds_toArray, List.set_cons_zero, List.set_cons_succ, Nat.zero_add, Nat.reduceAdd]; rw [if_neg (by simp [Region.wanted, yielded, hd, undef])]; exact rfl
        case ros33 =>
          intro v W hE hd
          rw [H23.out] at *
          cases r18 <;> cases zb
          · (try simp [deps, waitsOn, Region.binds, knowing, isV, ownsV, anyV] at hd); simp only [putAll, List.take_succ_cons, List.take_zero, List.drop_succ_cons, List.drop_zero, Act.put, List.setIfInBounds_toArray, List.set_cons_zero, List.set_cons_succ, Nat.zero_add, Nat.reduceAdd]; rw [if_neg (by simp [Region.wanted, yielded, hd, undef])]; exact rfl
          · (try simp [deps, waitsOn, Region.binds, knowing, isV, ownsV, anyV] at hd); simp only [putAll, List.take_succ_cons, List.take_zero, List.drop_succ_cons, List.drop_zero, Act.put, List.setIfInBounds_toArray, List.set_cons_zero, List.set_cons_succ, Nat.zero_add, Nat.reduceAdd]; rw [if_pos (by simp [Region.wanted, yielded, hd])]
            go_simp
            exact ⟨Below.refl _ _, rfl⟩
          · (try simp [deps, waitsOn, Region.binds, knowing, isV, ownsV, anyV] at hd); simp only [putAll, List.take_succ_cons, List.take_zero, List.drop_succ_cons, List.drop_zero, Act.put, List.setIfInBounds_toArray, List.set_cons_zero, List.set_cons_succ, Nat.zero_add, Nat.reduceAdd]; rw [if_neg (by simp [Region.wanted, yielded, hd, undef])]; exact rfl
          · (try simp [deps, waitsOn, Region.binds, knowing, isV, ownsV, anyV] at hd); simp only [putAll, List.take_succ_cons, List.take_zero, List.drop_succ_cons, List.drop_zero, Act.put, List.setIfInBounds_toArray, List.set_cons_zero, List.set_cons_succ, Nat.zero_add, Nat.reduceAdd]; rw [if_neg (by simp [Region.wanted, yielded, hd, undef])]; exact rfl
        case ros34 =>
          intro v W hE hd
          rw [H23.out] at *
          cases r18 <;> cases zb
          · (try simp [deps, waitsOn, Region.binds, knowing, isV, ownsV, anyV] at hd); simp only [putAll, List.take_succ_cons, List.take_zero, List.drop_succ_cons, List.drop_zero, Act.put, List.setIfInBounds_toArray, List.set_cons_zero, List.set_cons_succ, Nat.zero_add, Nat.reduceAdd]; rw [if_neg (by simp [Region.wanted, yielded, hd, undef])]; exact rfl
          · (try simp [deps, waitsOn, Region.binds, knowing, isV, ownsV, anyV] at hd); simp only [putAll, List.take_succ_cons, List.take_zero, List.drop_succ_cons, List.drop_zero, Act.put, List.setIfInBounds_toArray, List.set_cons_zero, List.set_cons_succ, Nat.zero_add, Nat.reduceAdd]; rw [if_pos (by simp [Region.wanted, yielded, hd])]
            go_simp
            exact ⟨Below.refl _ _, rfl⟩
          · (try simp [deps, waitsOn, Region.binds, knowing, isV, ownsV, anyV] at hd); simp only [putAll, List.take_succ_cons, List.take_zero, List.drop_succ_cons, List.drop_zero, Act.put, List.setIfInBounds_toArray, List.set_cons_zero, List.set_cons_succ, Nat.zero_add, Nat.reduceAdd]; rw [if_neg (by simp [Region.wanted, yielded, hd, undef])]; exact rfl
          · (try simp [deps, waitsOn, Region.binds, knowing, isV, ownsV, anyV] at hd); simp only [putAll, List.take_succ_cons, List.take_zero, List.drop_succ_cons, List.drop_zero, Act.put, List.setIfInBounds_toArray, List.set_cons_zero, List.set_cons_succ, Nat.zero_add, Nat.reduceAdd]; rw [if_neg (by simp [Region.wanted, yielded, hd, undef])]; exact rfl
        case ros35 =>
          intro v W hE hd
          rw [H23.out] at *
          cases r18 <;> cases zb
          · (try simp [deps, waitsOn, Region.binds, knowing, isV, ownsV, anyV] at hd); simp only [putAll, List.take_succ_cons, List.take_zero, List.drop_succ_cons, List.drop_zero, Act.put, List.setIfInBounds_toArray, List.set_cons_zero, List.set_cons_succ, Nat.zero_add, Nat.reduceAdd]; rw [if_neg (by simp [Region.wanted, yielded, hd, undef])]; exact rfl
          · (try simp [deps, waitsOn, Region.binds, knowing, isV, ownsV, anyV] at hd); simp only [putAll, List.take_succ_cons, List.take_zero, List.drop_succ_cons, List.drop_zero, Act.put, List.setIfInBounds_toArray, List.set_cons_zero, List.set_cons_succ, Nat.zero_add, Nat.reduceAdd]; rw [if_pos (by simp [Region.wanted, yielded, hd])]
            go_simp
            exact ⟨Below.refl _ _, rfl⟩
          · (try simp [deps, waitsOn, Region.binds, knowing, isV, ownsV, anyV] at hd); simp only [putAll, List.take_succ_cons, List.take_zero, List.drop_succ_cons, List.drop_zero, Act.put, List.setIfInBounds_toArray, List.set_cons_zero, List.set_cons_succ, Nat.zero_add, Nat.reduceAdd]; rw [if_neg (by simp [Region.wanted, yielded, hd, undef])]; exact rfl
          · (try simp [deps, waitsOn, Region.binds, knowing, isV, ownsV, anyV] at hd); simp only [putAll, List.take_succ_cons, List.take_zero, List.drop_succ_cons, List.drop_zero, Act.put, List.setIfInBounds_toArray, List.set_cons_zero, List.set_cons_succ, Nat.zero_add, Nat.reduceAdd]; rw [if_neg (by simp [Region.wanted, yielded, hd, undef])]; exact rfl
        case ros36 =>
          intro v W hE hd
          rw [H23.out] at *
          cases r18 <;> cases zb
          · (try simp [deps, waitsOn, Region.binds, knowing, isV, ownsV, anyV] at hd); simp only [putAll, List.take_succ_cons, List.take_zero, List.drop_succ_cons, List.drop_zero, Act.put, List.setIfInBounds_toArray, List.set_cons_zero, List.set_cons_succ, Nat.zero_add, Nat.reduceAdd]; rw [if_neg (by simp [Region.wanted, yielded, hd, undef])]; exact rfl
          · (try simp [deps, waitsOn, Region.binds, knowing, isV, ownsV, anyV] at hd); simp only [putAll, List.take_succ_cons, List.take_zero, List.drop_succ_cons, List.drop_zero, Act.put, List.setIfInBounds_toArray, List.set_cons_zero, List.set_cons_succ, Nat.zero_add, Nat.reduceAdd]; rw [if_pos (by simp [Region.wanted, yielded, hd])]
            go_simp
            exact ⟨Below.refl _ _, rfl⟩
          · (try simp [deps, waitsOn, Region.binds, knowing, isV, ownsV, anyV] at hd); simp only [putAll, List.take_succ_cons, List.take_zero, List.drop_succ_cons, List.drop_zero, Act.put, List.setIfInBounds_toArray, List.set_cons_zero, List.set_cons_succ, Nat.zero_add, Nat.reduceAdd]; rw [if_neg (by simp [Region.wanted, yielded, hd, undef])]; exact rfl
          · (try simp [deps, waitsOn, Region.binds, knowing, isV, ownsV, anyV] at hd); simp only [putAll, List.take_succ_cons, List.take_zero, List.drop_succ_cons, List.drop_zero, Act.put, List.setIfInBounds_toArray, List.set_cons_zero, List.set_cons_succ, Nat.zero_add, Nat.reduceAdd]; rw [if_neg (by simp [Region.wanted, yielded, hd, undef])]; exact rfl
        case ros37 =>
          intro v W hE hd
          rw [H23.out] at *
          cases r18 <;> cases zb
          · (try simp [deps, waitsOn, Region.binds, knowing, isV, ownsV, anyV] at hd); simp only [putAll, List.take_succ_cons, List.take_zero, List.drop_succ_cons, List.drop_zero, Act.put, List.setIfInBounds_toArray, List.set_cons_zero, List.set_cons_succ, Nat.zero_add, Nat.reduceAdd]; rw [if_neg (by simp [Region.wanted, yielded, hd, undef])]; exact rfl
          · (try simp [deps, waitsOn, Region.binds, knowing, isV, ownsV, anyV] at hd); simp only [putAll, List.take_succ_cons, List.take_zero, List.drop_succ_cons, List.drop_zero, Act.put, List.setIfInBounds_toArray, List.set_cons_zero, List.set_cons_succ, Nat.zero_add, Nat.reduceAdd]; rw [if_pos (by simp [Region.wanted, yielded, hd])]
            have e1 := cell_below hE Kc.out
            go_simp
            exact ⟨Below.refl _ _, rfl⟩
          · (try simp [deps, waitsOn, Region.binds, knowing, isV, ownsV, anyV] at hd); simp only [putAll, List.take_succ_cons, List.take_zero, List.drop_succ_cons, List.drop_zero, Act.put, List.setIfInBounds_toArray, List.set_cons_zero, List.set_cons_succ, Nat.zero_add, Nat.reduceAdd]; rw [if_neg (by simp [Region.wanted, yielded, hd, undef])]; exact rfl
          · (try simp [deps, waitsOn, Region.binds, knowing, isV, ownsV, anyV] at hd); simp only [putAll, List.take_succ_cons, List.take_zero, List.drop_succ_cons, List.drop_zero, Act.put, List.setIfInBounds_toArray, List.set_cons_zero, List.set_cons_succ, Nat.zero_add, Nat.reduceAdd]; rw [if_neg (by simp [Region.wanted, yielded, hd, undef])]; exact rfl
        case ros38 =>
          intro v W hE hd
          rw [H23.out] at *
          cases r18 <;> cases zb
          · (try simp [deps, waitsOn, Region.binds, knowing, isV, ownsV, anyV] at hd); simp only [putAll, List.take_succ_cons, List.take_zero, List.drop_succ_cons, List.drop_zero, Act.put, List.setIfInBounds_toArray, List.set_cons_zero, List.set_cons_succ, Nat.zero_add, Nat.reduceAdd]; rw [if_neg (by simp [Region.wanted, yielded, hd, undef])]; exact rfl
          · (try simp [deps, waitsOn, Region.binds, knowing, isV, ownsV, anyV] at hd); simp only [putAll, List.take_succ_cons, List.take_zero, List.drop_succ_cons, List.drop_zero, Act.put, List.setIfInBounds_toArray, List.set_cons_zero, List.set_cons_succ, Nat.zero_add, Nat.reduceAdd]; rw [if_pos (by simp [Region.wanted, yielded, hd])]
            have hkk := HKK.out
            go_simp
            exact ⟨Below.refl _ _, rfl⟩
          · (try simp [deps, waitsOn, Region.binds, knowing, isV, ownsV, anyV] at hd); simp only [putAll, List.take_succ_cons, List.take_zero, List.drop_succ_cons, List.drop_zero, Act.put, List.setIfInBounds_toArray, List.set_cons_zero, List.set_cons_succ, Nat.zero_add, Nat.reduceAdd]; rw [if_neg (by simp [Region.wanted, yielded, hd, undef])]; exact rfl
          · (try simp [deps, waitsOn, Region.binds, knowing, isV, ownsV, anyV] at hd); simp only [putAll, List.take_succ_cons, List.take_zero, List.drop_succ_cons, List.drop_zero, Act.put, List.setIfInBounds_toArray, List.set_cons_zero, List.set_cons_succ, Nat.zero_add, Nat.reduceAdd]; rw [if_neg (by simp [Region.wanted, yielded, hd, undef])]; exact rfl
        case ros39 =>
          intro v W hE hd
          rw [H27.out, H23.out] at *
          cases r18
          · cases zb <;> cases kb
            all_goals
              (try simp [deps, waitsOn, Region.binds, knowing, isV, ownsV, anyV] at hd); simp only [putAll, List.take_succ_cons, List.take_zero, List.drop_succ_cons, List.drop_zero, Act.put, List.setIfInBounds_toArray, List.set_cons_zero, List.set_cons_succ, Nat.zero_add, Nat.reduceAdd]; rw [if_pos (by simp [Region.wanted, yielded, hd])]
              go_simp
              exact ⟨Below.refl _ _, rfl⟩
          · (try simp [deps, waitsOn, Region.binds, knowing, isV, ownsV, anyV] at hd); simp only [putAll, List.take_succ_cons, List.take_zero, List.drop_succ_cons, List.drop_zero, Act.put, List.setIfInBounds_toArray, List.set_cons_zero, List.set_cons_succ, Nat.zero_add, Nat.reduceAdd]; rw [if_neg (by simp [Region.wanted, yielded, hd, undef])]; exact rfl
        case ros40 =>
          intro v W hE hd; simp only [Region.wanted, ↓reduceIte]; (try simp [deps, waitsOn, Region.binds, knowing, isV, ownsV, anyV] at hd); simp only [putAll, List.take_succ_cons, List.take_zero, List.drop_succ_cons, List.drop_zero, Act.put, List.setIfInBounds_toArray, List.set_cons_zero, List.set_cons_succ, Nat.zero_add, Nat.reduceAdd]
          rw [H28.out]
          cases r18 <;> cases r27
          all_goals
            simp only [cond_true, cond_false] at hd
            go_simp
            exact ⟨Below.refl _ _, rfl⟩
      · rintro v W9 hE ⟨-, -, -, -, -, -, -, -, -, -, -, -, -, -, -, -, -, -, -, -, -, -, -, -, -, -, -, -, -, -, -, -, -, -, -, -, -, -, -, -, e40, -⟩
        have e40 := (show v 40 = _ from e40)
        simp only [putAll, List.take_succ_cons, List.take_zero, List.drop_succ_cons, List.drop_zero, Act.put, List.setIfInBounds_toArray, List.set_cons_zero, List.set_cons_succ, Nat.zero_add, Nat.reduceAdd]
        rw [e40]
        have HE9 := hid (HEr.out.trans' hE)
        clear e40 hE
        cases r28
        · have Hnext := hid (show ∀ j, j < k + 1 → badE df l j = false from fun j hj => (HNk.out j hj).elim (fun e => by subst e; exact Hbk.out) (HN.out j))
          go_wp2_with fail
          go_roundw
          case rel => exact ⟨k + 1, by omega, by go_num, HE9, Hnext⟩
          case measure => simp [intOf]; omega
        · have hr := hid (okE_no hkx Hbk.out)
          go_wp2
          go_ret
          exact HNO.out W9 HE9.out hr.out
    · obtain rfl : k = n := by omega
      have hlt' : ¬ ((k : Int) < (k : Int)) := by omega
      have hr := hid (okE_yes fun j hj => HN.out j (by have := hn.out; omega))
      have HSr := hid (HSt.out.ext HEr.out)
      have hE0 := ext_alloc wr (.cells #[] 57)
      have HA0 := hid (OwnK.empty (R := REnt) (e := 57) (K := Out S w) wr w.heap.size HEr.out.size)
      have HB0 := hid (HEr.out.trans' hE0)
      have HLx := hid (show ∃ cs, Rows REnt (wr.alloc (.cells #[] 57)) (Out S w) l cs ∧ RV (wr.alloc (.cells #[] 57)) A cs from by
        have h1 := HL.out.ext fun k hk => HB0.out.block k hk.1
        obtain ⟨_, _, _, cs, h2, h3⟩ := h1
        refine ⟨cs, h2, ?_⟩
        rcases h3 with h3 | ⟨b, o, e, -, h3⟩
        · exact .inl h3
        · exact .inr ⟨b, o, e, h3⟩)
      have hszx := HEr.out.size
      have hkl : k < 1000000 := by have := hn.out; have := Hlen.out; omega
      clear hE0
      go_wp2_with (at_builtin; refine wpList_appK (w0 := w) (R := REnt) (xs := []) (base := w.heap.size) entinfo rfl (.tmp 54) (.tmp 55) rfl rfl HA0 (fun _ h => h.1) HB0 (by simp; omega) A k c l rfl hn HLx (by simp; omega) (by simp; omega) ?_; intro v2 W2 HA2 HB2 _; have HSr := hid (HSt.out.ext HB2.out); obtain ⟨_, _, _, _, -, -, -, c3, -, -, fz⟩ := HSr.out.cells; obtain ⟨A2, c2, hA2, hL2⟩ := ownK_out HA2.out (fun k hk => ⟨Nat.lt_of_lt_of_le hk.1 HB2.out.size, hk.2⟩) hSlt; subst hA2)
      go_ret
      have hfin := HSr.out.setL hL2
      have e1 : (([] : Ents) ++ l).length = l.length := rfl
      refine ⟨by rw [loadE_ok hr.out]; rfl, ?_, ?_⟩
      · rw [loadF_ok hr.out]; exact hfin.1
      · exact (Kept2.of_ext HB2.out).trans hfin.2
end Go.Proofs.YtpmmapcjohmniaaGreat
