/- The law FoldSums. -/
import Derived.Test.YtpmmapcjohmniaaFoMath
import Derived.Test.YtpmmapcjohmniaaOpF
import Derived.Deep.DeepCutAuto
namespace Go.Proofs.Ytpmmapcjohmniaa
open Go Go.RowKit
set_option linter.unusedSimpArgs false
set_option linter.unusedVariables false

/-- A sum's state, n0 what was there ahead. -/
def SumInv (n0 : Nat) (w : World) (s : Nat) (N : Nat) (sum : Int) (wx : World) : Prop :=
  ∃ S m D, StIs wx S s m (kdVal exD) exD.q D ∧ (∀ k, S k → k < wx.heap.size ∧ n0 ≤ k) ∧ atI D [] = sum ∧ FitB 1125899906842624 D ∧ D.length ≤ N ∧ Ext w wx
theorem int_at {w : World} {K : Nat → Prop} {A : Option Addr} {n c : Nat} {xs : List Int} (h : SlR (Rep.such Rep.i64 I64) w K A n c xs) (i : Nat) (hi : i < xs.length) :
    ∃ b o, A = some ⟨b, o, none⟩ ∧ K b ∧ w.cell? ⟨b, o + i, none⟩ = some (.int .i64 (xs[i]'hi)) ∧ I64 (xs[i]'hi) := by
  obtain ⟨b, o, d, e, hk, ⟨hd, hs⟩, hg⟩ := h.get (by decide) i hi
  refine ⟨b, o, e, hk, ?_, hs⟩
  have e' : d = [.int .i64 (xs[i]'hi)] := hd
  subst e'
  have := hg 0 _ rfl
  simpa [show (Rep.such Rep.i64 I64).size = 1 from rfl] using this
theorem SumInv.upon {n0 : Nat} {w wx w' : World} {s N : Nat} {S : Nat → Prop} {m : Nat} {D D' : Ents} (hS : StIs w' S s m (kdVal exD) exD.q D') (hb : ∀ k, S k → k < wx.heap.size ∧ n0 ≤ k) (hf : FitB 1125899906842624 D') (hl : D'.length ≤ N) (hE : Ext w wx) (hK : Kept2 s m wx w') (h0 : w.heap.size ≤ n0) : SumInv n0 w s N (atI D' []) w' :=
  ⟨S, m, D', hS, fun k hk => ⟨Nat.lt_of_lt_of_le (hb k hk).1 hK.size, (hb k hk).2⟩, rfl, hf, hl, hE.trans (hK.below (Nat.le_trans h0 (hb s hS.sIn).2) (Nat.le_trans h0 (hb m hS.mIn).2) hE.size)⟩
theorem tmod_small (x : Int) : -1099511627776 < x.tmod 1099511627776 ∧ x.tmod 1099511627776 < 1099511627776 := by
  have h1 := Int.tmod_lt_of_pos x (show (0 : Int) < 1099511627776 by decide)
  have h2 : -1099511627776 < x.tmod 1099511627776 := by
    have := Int.natAbs_tmod x 1099511627776
    have h3 : x.natAbs % (1099511627776 : Int).natAbs < 1099511627776 := Nat.mod_lt _ (by decide)
    omega
  exact ⟨h2, h1⟩
theorem StIs.upon' {w wx w' : World} {s N : Nat} {S : Nat → Prop} {m : Nat} {sum : Int} {D' : Ents} (hS : StIs w' S s m (kdVal exD) exD.q D') (hb : ∀ k, S k → k < wx.heap.size ∧ w.heap.size ≤ k) (hf : FitB 1125899906842624 D') (hl : D'.length ≤ N) (hE : Ext w wx) (hK : Kept2 s m wx w') (ha : atI D' [] = sum) : SumInv w.heap.size w s N sum w' := by
  subst ha
  exact SumInv.upon (D := D') hS hb hf hl hE hK (Nat.le_refl _)
theorem SumInv.ext {n0 : Nat} {w wx w' : World} {s N : Nat} {sum : Int} (h : SumInv n0 w s N sum wx) (hE : Ext wx w') : SumInv n0 w s N sum w' := by
  obtain ⟨S, m, D, hS, hb, h1, h2, h3, h4⟩ := h
  exact ⟨S, m, D, hS.ext hE, fun k hk => ⟨Nat.lt_of_lt_of_le (hb k hk).1 hE.size, (hb k hk).2⟩, h1, h2, h3, h4.trans' hE⟩
set_option maxRecDepth 100000 in
set_option maxHeartbeats 4000000 in
theorem foldSums_in (first : Int) (A : Option Addr) (n c : Nat) (l : List Int) (w : World) (hfirst : -9223372036854775808 ≤ first ∧ first ≤ 9223372036854775807) (h : SlR (Rep.such Rep.i64 I64) w (· < w.heap.size) A n c l) :
    Calls Try.prog 8 #[.int .i64 first, .slice A n c] w fun e w' => e = .returned (.bool true) ∧ Below w.heap.size w w' := by
  have hn := hid h.1
  have hnc := h.2.1
  have hcm := h.2.2.1
  have HL := hid h
  clear h
  go_enter Try.func8, Try.ntmps8
  go_wp2_with fail
  refine (shown_at w).mono ?_
  rintro e w0 ⟨rfl, hE0⟩
  have HE0 := hid hE0
  clear hE0
  go_wp2_with fail
  refine (all_at w0).mono ?_
  rintro e wa ⟨Aa, rfl, hA, hEa⟩
  have HA := hid (show SlR RCl wa (· < wa.heap.size) Aa 1 1 [allC] from hA.mono fun k hk => hk.2); have HEa := hid hEa
  clear hA hEa
  go_wp2_with fail
  have hnew := foldNew_at (d := exD) HA.out
  unfold defVal at hnew
  refine hnew.mono ?_
  clear hnew
  rintro e w1 ⟨hEb, hres⟩
  rcases hres with ⟨h, -⟩ | ⟨-, s, m, rfl, hss, hms, hN⟩
  · exact absurd ex_may h
  have HEs := hid (HEa.out.trans' hEb); have HNs := hid hN
  have hss := Nat.le_trans HEa.out.size hss
  have hms := Nat.le_trans HEa.out.size hms
  clear hEb hN HA HEa
  have HS := hid (HNs.out.is (S := fun k => k = s ∨ k = m) (fun k hk => .inr hk) (.inl rfl) (.inr rfl))
  have HE1 := hid (HE0.out.trans (HEs.out.mono HE0.out.size))
  have HI := hid (show SumInv w.heap.size w s 1 0 w1 from ⟨_, m, [], HS.out, fun k hk => by have := HS.out.lt; have := HE0.out.size; rcases hk with rfl | rfl <;> omega, rfl, fun p hp => by simp at hp, by decide, HE1.out⟩)
  clear HNs
  by_cases h0 : first = 0
  · subst h0
    have Hsum := hid (show fitsN 0 = true from rfl)
    have HI0 := HI
    go_wp2_with fail
    go_loopw [8, 9] (fun u i wr => ∃ (k : Nat) (sum : Int), k ≤ n ∧ k ≤ 60 ∧ i = .int .i64 (k : Int) ∧ u = .int .i64 sum ∧ fitsN sum = true ∧ Hid (SumInv w.heap.size w s (k + 1) sum wr)) (fun _ i _ => n - (intOf i).toNat)
    case atStart => exact ⟨0, 0, by omega, by omega, rfl, rfl, Hsum.out, HI0⟩
    case round =>
      obtain ⟨k, sum, hk, hk60, rfl, rfl, hsum, HI⟩ := hrel
      by_cases hlt : k < n
      · by_cases h60 : k < 60
        · have hkx : k < l.length := by have := hn.out; omega
          have hlt' : (k : Int) < (n : Int) := by omega
          have hlt60 : (k : Int) < (60 : Int) := by omega
          have hk00 : ¬ ((k : Int) < 0) := by omega
          have hk0 : (0 : Int) ≤ (k : Int) := by omega
          obtain ⟨S, m', D, hS, hb, hat, hfit, hlen, hE⟩ := HI.out
          obtain ⟨b, o, rfl, -, f0, hr⟩ := int_at (HL.out.grow hE) k hkx
          have HS := hid hS; have Hb := hid hb; have Hat := hid hat; have Hfit := hid hfit; have Hlen := hid hlen; have HE := hid hE
          clear hS hb hat hfit hlen hE HI
          generalize l[k] = x at *
          go_wp2_with fail
          have hvb : -1099511627776 < x.tmod 1099511627776 ∧ x.tmod 1099511627776 < 1099511627776 := tmod_small x
          generalize x.tmod 1099511627776 = v at *
          have hs2 := (fitsN_iff sum).1 hsum
          have HSb := hid (HS.out.ext (ext_alloc wr (.cells #[.string { data := #[110] }, .int .i64 v] 61)))
          have Hfit2 := hid (Hfit.out.le (B' := 2305843009213693952) (by decide))
          have hst := step_at (p := 0) (vr := 0) HSb.out (evS_box v (fun h => by have := (Hb.out _ h).1; omega)) (small_ex v (by omega)) (by have := Hlen.out; omega) Hfit2.out
          unfold recVal at hst
          refine hst.mono ?_
          clear hst
          rintro e w2 ⟨rfl, hS2, hK2⟩
          have hK3 := (Kept2.of_ext (d := s) (m := m') (ext_alloc wr (.cells #[.string { data := #[110] }, .int .i64 v] 61))).trans hK2
          cases hv : fitsN (sum + v)
          · have hst := step_over Hat.out hsum hv
            unfold evN at hst
            rw [hst] at hS2 ⊢
            have HI2 := hid (hS2.upon' Hb.out Hfit.out (Nat.le_trans Hlen.out (Nat.le_succ (k + 1))) HE.out hK3 Hat.out)
            have HS2 := hid hS2
            have hov : ¬ (sum + v ≤ 1125899906842624) ∨ ¬ (-1125899906842624 ≤ sum + v) := by
              rcases Classical.em (sum + v ≤ 1125899906842624) with h | h
              · refine .inr fun h' => ?_
                rw [(fitsN_iff _).2 ⟨h', h⟩] at hv; cases hv
              · exact .inl h
            clear hst hS2 hK2 hK3 hv
            have Hs := hid hsum
            clear hsum
            have hw : IntKind.i64.wrap (sum + v) = sum + v := by rw [IntKind.wrap_i64]; omega
            by_cases h1 : (1125899906842624 : Int) < sum + v
            · clear hov
              go_wp2_with fail
              refine (entries_at HS2.out (by have := Hlen.out; omega)).mono ?_
              rintro e w3 ⟨u, rfl, hO, hE3⟩
              obtain ⟨A3, c3, cs3, rfl, ho1, ho2, ho3, ho4⟩ := hO.read
              have HI3 := hid (HI2.out.ext hE3)
              have HR := hid (show SlR REnt w3 (fun _ => True) A3 D.length c3 D from ⟨rfl, ho1, ho2, cs3, ho3.mono fun _ h => h.elim, by
                rcases ho4 with h | ⟨b, o, e, h⟩
                · exact .inl h
                · exact .inr ⟨b, o, e, trivial, h⟩⟩)
              clear hO hE3 ho1 ho2 ho3 ho4
              generalize D.length = dl at HR ⊢
              go_wp2_with fail
              have hnm := number_at HR.out []
              rw [Hat.out] at hnm
              refine hnm.mono ?_
              clear hnm
              rintro e w4 ⟨rfl, rfl⟩
              go_wp2_with fail
              go_roundw
              case rel => exact ⟨k + 1, sum, by omega, by omega, by go_num, rfl, Hs.out, HI3⟩
              case measure => simp [intOf]; omega
            · have h2 : sum + v < -1125899906842624 := by omega
              clear hov
              go_wp2_with fail
              refine (entries_at HS2.out (by have := Hlen.out; omega)).mono ?_
              rintro e w3 ⟨u, rfl, hO, hE3⟩
              obtain ⟨A3, c3, cs3, rfl, ho1, ho2, ho3, ho4⟩ := hO.read
              have HI3 := hid (HI2.out.ext hE3)
              have HR := hid (show SlR REnt w3 (fun _ => True) A3 D.length c3 D from ⟨rfl, ho1, ho2, cs3, ho3.mono fun _ h => h.elim, by
                rcases ho4 with h | ⟨b, o, e, h⟩
                · exact .inl h
                · exact .inr ⟨b, o, e, trivial, h⟩⟩)
              clear hO hE3 ho1 ho2 ho3 ho4
              generalize D.length = dl at HR ⊢
              go_wp2_with fail
              have hnm := number_at HR.out []
              rw [Hat.out] at hnm
              refine hnm.mono ?_
              clear hnm
              rintro e w4 ⟨rfl, rfl⟩
              go_wp2_with fail
              go_roundw
              case rel => exact ⟨k + 1, sum, by omega, by omega, by go_num, rfl, Hs.out, HI3⟩
              case measure => simp [intOf]; omega
          · have hst := step_in Hat.out hv
            unfold evN at hst
            rw [hst] at hS2 ⊢
            have hat2 : atI (setF exD [] (sum + v) D) [] = sum + v := by rw [atI_setF, if_pos rfl]
            have hv2 := (fitsN_iff _).1 hv
            have HI2 := hid (hS2.upon' Hb.out (Hfit.out.set (by omega)) (Nat.le_trans (length_setF exD [] (sum + v) D) (by have := Hlen.out; omega : D.length + 1 ≤ k + 1 + 1)) HE.out hK3 hat2)
            have HS2 := hid hS2
            clear hst hS2 hK2 hK3
            have Hs := hid hv
            clear hsum hv
            have hw : IntKind.i64.wrap (sum + v) = sum + v := by rw [IntKind.wrap_i64]; omega
            have h1 : ¬ ((1125899906842624 : Int) < sum + v) := by omega
            have h2 : ¬ (sum + v < -1125899906842624) := by omega
            have Hat := hid hat2
            clear hat2
            have hlen3 := length_setF exD [] (sum + v) D
            have hlen4 : (setF exD [] (sum + v) D).length < 1000000 := by have := Hlen.out; omega
            generalize setF exD [] (sum + v) D = D at HS2 Hat HI2 hlen4
            clear hlen3
            go_wp2_with fail
            all_goals first
              | (exfalso; simp only [Bool.not_eq_false', decide_eq_true_eq] at *; omega)
              | skip
            refine (entries_at HS2.out hlen4).mono ?_
            rintro e w3 ⟨u, rfl, hO, hE3⟩
            obtain ⟨A3, c3, cs3, rfl, ho1, ho2, ho3, ho4⟩ := hO.read
            have HI3 := hid (HI2.out.ext hE3)
            have HR := hid (show SlR REnt w3 (fun _ => True) A3 D.length c3 D from ⟨rfl, ho1, ho2, cs3, ho3.mono fun _ h => h.elim, by
              rcases ho4 with h | ⟨b, o, e, h⟩
              · exact .inl h
              · exact .inr ⟨b, o, e, trivial, h⟩⟩)
            clear hO hE3 ho1 ho2 ho3 ho4
            generalize D.length = dl at HR ⊢
            go_wp2_with fail
            have hnm := number_at HR.out []
            rw [Hat.out] at hnm
            refine hnm.mono ?_
            clear hnm
            rintro e w4 ⟨rfl, rfl⟩
            go_wp2_with fail
            go_roundw
            case rel => exact ⟨k + 1, sum + v, by omega, by omega, by go_num, by go_num, Hs.out, HI3⟩
            case measure => simp [intOf]; omega
        · have hlt' : (k : Int) < (n : Int) := by omega
          have hlt60 : ¬ ((k : Int) < (60 : Int)) := by omega
          obtain ⟨-, -, -, -, -, -, -, -, hE⟩ := HI.out
          have HE := hid hE
          clear hE HI
          go_wp2
          go_ret
          exact ⟨rfl, HE.out⟩
      · obtain rfl : k = n := by omega
        have hlt' : ¬ ((k : Int) < (k : Int)) := by omega
        obtain ⟨-, -, -, -, -, -, -, -, hE⟩ := HI.out
        have HE := hid hE
        clear hE HI
        go_wp2
        go_ret
        exact ⟨rfl, HE.out⟩
  · have h0b : (first != 0) = true := by simpa using h0
    have h0c : (first == 0) = false := by simpa using h0
    go_wp2_with fail
    have HEb := hid (ext_alloc w1 (.cells #[.string { data := #[] }, .int .i64 first] 53))
    have HSb := hid (HS.out.ext HEb.out)
    have hsl : SlR REnt (w1.alloc (.cells #[.string { data := #[] }, .int .i64 first] 53)) (Out (fun k => k = s ∨ k = m) (w1.alloc (.cells #[.string { data := #[] }, .int .i64 first] 53))) (some ⟨w1.heap.size, 0, none⟩) 1 1 [([], first)] :=
      slR_box (R := REnt) (cs := [.string { data := #[] }, .int .i64 first]) (x := ([], first)) (field_mk (f := ([], first)) (Nat.zero_le _)) ⟨by simp, fun h => by have := HS.out.lt; rcases h with h | h <;> omega⟩
    have hld := load_at HSb.out hsl (by simp) (fun p hp => by simp at hp; subst hp; exact hfirst)
    refine hld.mono ?_
    clear hld
    rintro e w2 ⟨rfl, ⟨m2, hm2, hS2⟩, hK2⟩
    have hK3 := (Kept2.of_ext (d := s) (m := s) HEb.out).trans hK2
    have hE2 := HE1.out.trans (hK3.below (Nat.le_trans HE0.out.size hss) (Nat.le_trans HE0.out.size hss) HE1.out.size)
    have hlk := load_one h0
    have hb2 : ∀ k, ((k = s ∨ k = m) ∨ k = m2) → k < w2.heap.size ∧ w.heap.size ≤ k := fun k hk => by
      have h1 := HS.out.lt
      have h2 := hK3.size
      have h3 := HE0.out.size
      have h4 := hS2.lt
      have h5 := HEb.out.size
      rcases hk with (rfl | rfl) | rfl
      · omega
      · omega
      · rcases hm2 with rfl | hm2
        · omega
        · have := HE1.out.size; omega
    cases hff : fitsN first
    · rw [hff] at hlk
      have e1 : loadE exD [([], first)] = 1 := by unfold loadE; rw [hlk]; rfl
      have e2 : loadF exD [([], first)] [] = [] := by unfold loadF; rw [hlk]; rfl
      rw [e2] at hS2
      rw [e1]
      have HI2 := hid (show SumInv w.heap.size w s 1 0 w2 from ⟨_, m2, [], hS2, hb2, rfl, fun p hp => by simp at hp, by decide, hE2⟩)
      have Hsum := hid (show fitsN 0 = true from rfl)
      clear hS2 hb2 hE2 hlk hK2 hK3 e1 e2 hff hsl
      have HI0 := HI2
      go_wp2_with fail
      go_loopw [8, 9] (fun u i wr => ∃ (k : Nat) (sum : Int), k ≤ n ∧ k ≤ 60 ∧ i = .int .i64 (k : Int) ∧ u = .int .i64 sum ∧ fitsN sum = true ∧ Hid (SumInv w.heap.size w s (k + 1) sum wr)) (fun _ i _ => n - (intOf i).toNat)
      case atStart => exact ⟨0, 0, by omega, by omega, rfl, rfl, Hsum.out, HI0⟩
      case round =>
        obtain ⟨k, sum, hk, hk60, rfl, rfl, hsum, HI⟩ := hrel
        by_cases hlt : k < n
        · by_cases h60 : k < 60
          · have hkx : k < l.length := by have := hn.out; omega
            have hlt' : (k : Int) < (n : Int) := by omega
            have hlt60 : (k : Int) < (60 : Int) := by omega
            have hk00 : ¬ ((k : Int) < 0) := by omega
            have hk0 : (0 : Int) ≤ (k : Int) := by omega
            obtain ⟨S, m', D, hS, hb, hat, hfit, hlen, hE⟩ := HI.out
            obtain ⟨b, o, rfl, -, f0, hr⟩ := int_at (HL.out.grow hE) k hkx
            have HS := hid hS; have Hb := hid hb; have Hat := hid hat; have Hfit := hid hfit; have Hlen := hid hlen; have HE := hid hE
            clear hS hb hat hfit hlen hE HI
            generalize l[k] = x at *
            go_wp2_with fail
            have hvb : -1099511627776 < x.tmod 1099511627776 ∧ x.tmod 1099511627776 < 1099511627776 := tmod_small x
            generalize x.tmod 1099511627776 = v at *
            have hs2 := (fitsN_iff sum).1 hsum
            have HSb := hid (HS.out.ext (ext_alloc wr (.cells #[.string { data := #[110] }, .int .i64 v] 61)))
            have Hfit2 := hid (Hfit.out.le (B' := 2305843009213693952) (by decide))
            have hst := step_at (p := 0) (vr := 0) HSb.out (evS_box v (fun h => by have := (Hb.out _ h).1; omega)) (small_ex v (by omega)) (by have := Hlen.out; omega) Hfit2.out
            unfold recVal at hst
            refine hst.mono ?_
            clear hst
            rintro e w2 ⟨rfl, hS2, hK2⟩
            have hK3 := (Kept2.of_ext (d := s) (m := m') (ext_alloc wr (.cells #[.string { data := #[110] }, .int .i64 v] 61))).trans hK2
            cases hv : fitsN (sum + v)
            · have hst := step_over Hat.out hsum hv
              unfold evN at hst
              rw [hst] at hS2 ⊢
              have HI2 := hid (hS2.upon' Hb.out Hfit.out (Nat.le_trans Hlen.out (Nat.le_succ (k + 1))) HE.out hK3 Hat.out)
              have HS2 := hid hS2
              have hov : ¬ (sum + v ≤ 1125899906842624) ∨ ¬ (-1125899906842624 ≤ sum + v) := by
                rcases Classical.em (sum + v ≤ 1125899906842624) with h | h
                · refine .inr fun h' => ?_
                  rw [(fitsN_iff _).2 ⟨h', h⟩] at hv; cases hv
                · exact .inl h
              clear hst hS2 hK2 hK3 hv
              have Hs := hid hsum
              clear hsum
              have hw : IntKind.i64.wrap (sum + v) = sum + v := by rw [IntKind.wrap_i64]; omega
              by_cases h1 : (1125899906842624 : Int) < sum + v
              · clear hov
                go_wp2_with fail
                refine (entries_at HS2.out (by have := Hlen.out; omega)).mono ?_
                rintro e w3 ⟨u, rfl, hO, hE3⟩
                obtain ⟨A3, c3, cs3, rfl, ho1, ho2, ho3, ho4⟩ := hO.read
                have HI3 := hid (HI2.out.ext hE3)
                have HR := hid (show SlR REnt w3 (fun _ => True) A3 D.length c3 D from ⟨rfl, ho1, ho2, cs3, ho3.mono fun _ h => h.elim, by
                  rcases ho4 with h | ⟨b, o, e, h⟩
                  · exact .inl h
                  · exact .inr ⟨b, o, e, trivial, h⟩⟩)
                clear hO hE3 ho1 ho2 ho3 ho4
                generalize D.length = dl at HR ⊢
                go_wp2_with fail
                have hnm := number_at HR.out []
                rw [Hat.out] at hnm
                refine hnm.mono ?_
                clear hnm
                rintro e w4 ⟨rfl, rfl⟩
                go_wp2_with fail
                go_roundw
                case rel => exact ⟨k + 1, sum, by omega, by omega, by go_num, rfl, Hs.out, HI3⟩
                case measure => simp [intOf]; omega
              · have h2 : sum + v < -1125899906842624 := by omega
                clear hov
                go_wp2_with fail
                refine (entries_at HS2.out (by have := Hlen.out; omega)).mono ?_
                rintro e w3 ⟨u, rfl, hO, hE3⟩
                obtain ⟨A3, c3, cs3, rfl, ho1, ho2, ho3, ho4⟩ := hO.read
                have HI3 := hid (HI2.out.ext hE3)
                have HR := hid (show SlR REnt w3 (fun _ => True) A3 D.length c3 D from ⟨rfl, ho1, ho2, cs3, ho3.mono fun _ h => h.elim, by
                  rcases ho4 with h | ⟨b, o, e, h⟩
                  · exact .inl h
                  · exact .inr ⟨b, o, e, trivial, h⟩⟩)
                clear hO hE3 ho1 ho2 ho3 ho4
                generalize D.length = dl at HR ⊢
                go_wp2_with fail
                have hnm := number_at HR.out []
                rw [Hat.out] at hnm
                refine hnm.mono ?_
                clear hnm
                rintro e w4 ⟨rfl, rfl⟩
                go_wp2_with fail
                go_roundw
                case rel => exact ⟨k + 1, sum, by omega, by omega, by go_num, rfl, Hs.out, HI3⟩
                case measure => simp [intOf]; omega
            · have hst := step_in Hat.out hv
              unfold evN at hst
              rw [hst] at hS2 ⊢
              have hat2 : atI (setF exD [] (sum + v) D) [] = sum + v := by rw [atI_setF, if_pos rfl]
              have hv2 := (fitsN_iff _).1 hv
              have HI2 := hid (hS2.upon' Hb.out (Hfit.out.set (by omega)) (Nat.le_trans (length_setF exD [] (sum + v) D) (by have := Hlen.out; omega : D.length + 1 ≤ k + 1 + 1)) HE.out hK3 hat2)
              have HS2 := hid hS2
              clear hst hS2 hK2 hK3
              have Hs := hid hv
              clear hsum hv
              have hw : IntKind.i64.wrap (sum + v) = sum + v := by rw [IntKind.wrap_i64]; omega
              have h1 : ¬ ((1125899906842624 : Int) < sum + v) := by omega
              have h2 : ¬ (sum + v < -1125899906842624) := by omega
              have Hat := hid hat2
              clear hat2
              have hlen3 := length_setF exD [] (sum + v) D
              have hlen4 : (setF exD [] (sum + v) D).length < 1000000 := by have := Hlen.out; omega
              generalize setF exD [] (sum + v) D = D at HS2 Hat HI2 hlen4
              clear hlen3
              go_wp2_with fail
              all_goals first
                | (exfalso; simp only [Bool.not_eq_false', decide_eq_true_eq] at *; omega)
                | skip
              refine (entries_at HS2.out hlen4).mono ?_
              rintro e w3 ⟨u, rfl, hO, hE3⟩
              obtain ⟨A3, c3, cs3, rfl, ho1, ho2, ho3, ho4⟩ := hO.read
              have HI3 := hid (HI2.out.ext hE3)
              have HR := hid (show SlR REnt w3 (fun _ => True) A3 D.length c3 D from ⟨rfl, ho1, ho2, cs3, ho3.mono fun _ h => h.elim, by
                rcases ho4 with h | ⟨b, o, e, h⟩
                · exact .inl h
                · exact .inr ⟨b, o, e, trivial, h⟩⟩)
              clear hO hE3 ho1 ho2 ho3 ho4
              generalize D.length = dl at HR ⊢
              go_wp2_with fail
              have hnm := number_at HR.out []
              rw [Hat.out] at hnm
              refine hnm.mono ?_
              clear hnm
              rintro e w4 ⟨rfl, rfl⟩
              go_wp2_with fail
              go_roundw
              case rel => exact ⟨k + 1, sum + v, by omega, by omega, by go_num, by go_num, Hs.out, HI3⟩
              case measure => simp [intOf]; omega
          · have hlt' : (k : Int) < (n : Int) := by omega
            have hlt60 : ¬ ((k : Int) < (60 : Int)) := by omega
            obtain ⟨-, -, -, -, -, -, -, -, hE⟩ := HI.out
            have HE := hid hE
            clear hE HI
            go_wp2
            go_ret
            exact ⟨rfl, HE.out⟩
        · obtain rfl : k = n := by omega
          have hlt' : ¬ ((k : Int) < (k : Int)) := by omega
          obtain ⟨-, -, -, -, -, -, -, -, hE⟩ := HI.out
          have HE := hid hE
          clear hE HI
          go_wp2
          go_ret
          exact ⟨rfl, HE.out⟩
    · rw [hff] at hlk
      have e1 : loadE exD [([], first)] = 0 := by unfold loadE; rw [hlk]; rfl
      have e2 : loadF exD [([], first)] [] = [([], first)] := by unfold loadF; rw [hlk]; rfl
      rw [e2] at hS2
      rw [e1]
      have HI2 := hid (show SumInv w.heap.size w s 1 first w2 from ⟨_, m2, [([], first)], hS2, hb2, rfl, fun p hp => by simp at hp; subst hp; have := (fitsN_iff first).1 hff; exact this, Nat.le_refl _, hE2⟩)
      have Hsum := hid hff
      clear hS2 hb2 hE2 hlk hK2 hK3 e1 e2 hff hsl
      have HI0 := HI2
      go_wp2_with fail
      go_loopw [8, 9] (fun u i wr => ∃ (k : Nat) (sum : Int), k ≤ n ∧ k ≤ 60 ∧ i = .int .i64 (k : Int) ∧ u = .int .i64 sum ∧ fitsN sum = true ∧ Hid (SumInv w.heap.size w s (k + 1) sum wr)) (fun _ i _ => n - (intOf i).toNat)
      case atStart => exact ⟨0, first, by omega, by omega, rfl, rfl, Hsum.out, HI0⟩
      case round =>
        obtain ⟨k, sum, hk, hk60, rfl, rfl, hsum, HI⟩ := hrel
        by_cases hlt : k < n
        · by_cases h60 : k < 60
          · have hkx : k < l.length := by have := hn.out; omega
            have hlt' : (k : Int) < (n : Int) := by omega
            have hlt60 : (k : Int) < (60 : Int) := by omega
            have hk00 : ¬ ((k : Int) < 0) := by omega
            have hk0 : (0 : Int) ≤ (k : Int) := by omega
            obtain ⟨S, m', D, hS, hb, hat, hfit, hlen, hE⟩ := HI.out
            obtain ⟨b, o, rfl, -, f0, hr⟩ := int_at (HL.out.grow hE) k hkx
            have HS := hid hS; have Hb := hid hb; have Hat := hid hat; have Hfit := hid hfit; have Hlen := hid hlen; have HE := hid hE
            clear hS hb hat hfit hlen hE HI
            generalize l[k] = x at *
            go_wp2_with fail
            have hvb : -1099511627776 < x.tmod 1099511627776 ∧ x.tmod 1099511627776 < 1099511627776 := tmod_small x
            generalize x.tmod 1099511627776 = v at *
            have hs2 := (fitsN_iff sum).1 hsum
            have HSb := hid (HS.out.ext (ext_alloc wr (.cells #[.string { data := #[110] }, .int .i64 v] 61)))
            have Hfit2 := hid (Hfit.out.le (B' := 2305843009213693952) (by decide))
            have hst := step_at (p := 0) (vr := 0) HSb.out (evS_box v (fun h => by have := (Hb.out _ h).1; omega)) (small_ex v (by omega)) (by have := Hlen.out; omega) Hfit2.out
            unfold recVal at hst
            refine hst.mono ?_
            clear hst
            rintro e w2 ⟨rfl, hS2, hK2⟩
            have hK3 := (Kept2.of_ext (d := s) (m := m') (ext_alloc wr (.cells #[.string { data := #[110] }, .int .i64 v] 61))).trans hK2
            cases hv : fitsN (sum + v)
            · have hst := step_over Hat.out hsum hv
              unfold evN at hst
              rw [hst] at hS2 ⊢
              have HI2 := hid (hS2.upon' Hb.out Hfit.out (Nat.le_trans Hlen.out (Nat.le_succ (k + 1))) HE.out hK3 Hat.out)
              have HS2 := hid hS2
              have hov : ¬ (sum + v ≤ 1125899906842624) ∨ ¬ (-1125899906842624 ≤ sum + v) := by
                rcases Classical.em (sum + v ≤ 1125899906842624) with h | h
                · refine .inr fun h' => ?_
                  rw [(fitsN_iff _).2 ⟨h', h⟩] at hv; cases hv
                · exact .inl h
              clear hst hS2 hK2 hK3 hv
              have Hs := hid hsum
              clear hsum
              have hw : IntKind.i64.wrap (sum + v) = sum + v := by rw [IntKind.wrap_i64]; omega
              by_cases h1 : (1125899906842624 : Int) < sum + v
              · clear hov
                go_wp2_with fail
                refine (entries_at HS2.out (by have := Hlen.out; omega)).mono ?_
                rintro e w3 ⟨u, rfl, hO, hE3⟩
                obtain ⟨A3, c3, cs3, rfl, ho1, ho2, ho3, ho4⟩ := hO.read
                have HI3 := hid (HI2.out.ext hE3)
                have HR := hid (show SlR REnt w3 (fun _ => True) A3 D.length c3 D from ⟨rfl, ho1, ho2, cs3, ho3.mono fun _ h => h.elim, by
                  rcases ho4 with h | ⟨b, o, e, h⟩
                  · exact .inl h
                  · exact .inr ⟨b, o, e, trivial, h⟩⟩)
                clear hO hE3 ho1 ho2 ho3 ho4
                generalize D.length = dl at HR ⊢
                go_wp2_with fail
                have hnm := number_at HR.out []
                rw [Hat.out] at hnm
                refine hnm.mono ?_
                clear hnm
                rintro e w4 ⟨rfl, rfl⟩
                go_wp2_with fail
                go_roundw
                case rel => exact ⟨k + 1, sum, by omega, by omega, by go_num, rfl, Hs.out, HI3⟩
                case measure => simp [intOf]; omega
              · have h2 : sum + v < -1125899906842624 := by omega
                clear hov
                go_wp2_with fail
                refine (entries_at HS2.out (by have := Hlen.out; omega)).mono ?_
                rintro e w3 ⟨u, rfl, hO, hE3⟩
                obtain ⟨A3, c3, cs3, rfl, ho1, ho2, ho3, ho4⟩ := hO.read
                have HI3 := hid (HI2.out.ext hE3)
                have HR := hid (show SlR REnt w3 (fun _ => True) A3 D.length c3 D from ⟨rfl, ho1, ho2, cs3, ho3.mono fun _ h => h.elim, by
                  rcases ho4 with h | ⟨b, o, e, h⟩
                  · exact .inl h
                  · exact .inr ⟨b, o, e, trivial, h⟩⟩)
                clear hO hE3 ho1 ho2 ho3 ho4
                generalize D.length = dl at HR ⊢
                go_wp2_with fail
                have hnm := number_at HR.out []
                rw [Hat.out] at hnm
                refine hnm.mono ?_
                clear hnm
                rintro e w4 ⟨rfl, rfl⟩
                go_wp2_with fail
                go_roundw
                case rel => exact ⟨k + 1, sum, by omega, by omega, by go_num, rfl, Hs.out, HI3⟩
                case measure => simp [intOf]; omega
            · have hst := step_in Hat.out hv
              unfold evN at hst
              rw [hst] at hS2 ⊢
              have hat2 : atI (setF exD [] (sum + v) D) [] = sum + v := by rw [atI_setF, if_pos rfl]
              have hv2 := (fitsN_iff _).1 hv
              have HI2 := hid (hS2.upon' Hb.out (Hfit.out.set (by omega)) (Nat.le_trans (length_setF exD [] (sum + v) D) (by have := Hlen.out; omega : D.length + 1 ≤ k + 1 + 1)) HE.out hK3 hat2)
              have HS2 := hid hS2
              clear hst hS2 hK2 hK3
              have Hs := hid hv
              clear hsum hv
              have hw : IntKind.i64.wrap (sum + v) = sum + v := by rw [IntKind.wrap_i64]; omega
              have h1 : ¬ ((1125899906842624 : Int) < sum + v) := by omega
              have h2 : ¬ (sum + v < -1125899906842624) := by omega
              have Hat := hid hat2
              clear hat2
              have hlen3 := length_setF exD [] (sum + v) D
              have hlen4 : (setF exD [] (sum + v) D).length < 1000000 := by have := Hlen.out; omega
              generalize setF exD [] (sum + v) D = D at HS2 Hat HI2 hlen4
              clear hlen3
              go_wp2_with fail
              all_goals first
                | (exfalso; simp only [Bool.not_eq_false', decide_eq_true_eq] at *; omega)
                | skip
              refine (entries_at HS2.out hlen4).mono ?_
              rintro e w3 ⟨u, rfl, hO, hE3⟩
              obtain ⟨A3, c3, cs3, rfl, ho1, ho2, ho3, ho4⟩ := hO.read
              have HI3 := hid (HI2.out.ext hE3)
              have HR := hid (show SlR REnt w3 (fun _ => True) A3 D.length c3 D from ⟨rfl, ho1, ho2, cs3, ho3.mono fun _ h => h.elim, by
                rcases ho4 with h | ⟨b, o, e, h⟩
                · exact .inl h
                · exact .inr ⟨b, o, e, trivial, h⟩⟩)
              clear hO hE3 ho1 ho2 ho3 ho4
              generalize D.length = dl at HR ⊢
              go_wp2_with fail
              have hnm := number_at HR.out []
              rw [Hat.out] at hnm
              refine hnm.mono ?_
              clear hnm
              rintro e w4 ⟨rfl, rfl⟩
              go_wp2_with fail
              go_roundw
              case rel => exact ⟨k + 1, sum + v, by omega, by omega, by go_num, by go_num, Hs.out, HI3⟩
              case measure => simp [intOf]; omega
          · have hlt' : (k : Int) < (n : Int) := by omega
            have hlt60 : ¬ ((k : Int) < (60 : Int)) := by omega
            obtain ⟨-, -, -, -, -, -, -, -, hE⟩ := HI.out
            have HE := hid hE
            clear hE HI
            go_wp2
            go_ret
            exact ⟨rfl, HE.out⟩
        · obtain rfl : k = n := by omega
          have hlt' : ¬ ((k : Int) < (k : Int)) := by omega
          obtain ⟨-, -, -, -, -, -, -, -, hE⟩ := HI.out
          have HE := hid hE
          clear hE HI
          go_wp2
          go_ret
          exact ⟨rfl, HE.out⟩
end Go.Proofs.Ytpmmapcjohmniaa
