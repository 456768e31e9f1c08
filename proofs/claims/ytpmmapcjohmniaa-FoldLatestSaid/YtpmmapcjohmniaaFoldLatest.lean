/- The law FoldLatest. -/
import Derived.Test.YtpmmapcjohmniaaFoLat
import Derived.Test.YtpmmapcjohmniaaThree
import Derived.Laws.StructEq
namespace Go.Proofs.Ytpmmapcjohmniaa
open Go Go.RowKit
set_option linter.unusedSimpArgs false
set_option linter.unusedVariables false

/-- An entry in a box of its own. -/
def EntBox (bx : Nat) (st : Str) (N : Int) (w : World) : Prop := w.heap[bx]? = some (.cells #[.string (str st), .int .i64 N] 53)
theorem EntBox.cells {bx : Nat} {st : Str} {N : Int} {w : World} (h : EntBox bx st N w) : w.cell? ⟨bx, 0, none⟩ = some (.string (str st)) ∧ w.cell? ⟨bx, 1, none⟩ = some (.int .i64 N) := by
  refine ⟨?_, ?_⟩ <;> · rw [cell_of_row _ _ _ _ _ _ h]; rfl
theorem EntBox.kept {bx s m0 : Nat} {st : Str} {N : Int} {w w' : World} (h : EntBox bx st N w) (hk : Kept2 s m0 w w') (h1 : bx ≠ s) (h2 : bx ≠ m0) : EntBox bx st N w' :=
  (hk.block bx (Array.getElem?_eq_some_iff.1 h).1 h1 h2).trans h
theorem EntBox.ext {bx : Nat} {st : Str} {N : Int} {w w' : World} (h : EntBox bx st N w) (hE : Ext w w') : EntBox bx st N w' := (hE.block bx (Array.getElem?_eq_some_iff.1 h).1).trans h
theorem EntBox.set {bx : Nat} {st : Str} {N : Int} {w : World} (h : EntBox bx st N w) (v : Int) : EntBox bx st v (w.setCell ⟨bx, 1, none⟩ (.int .i64 v)) := heap_setCell_row h _
theorem EntBox.free {bx : Nat} {st : Str} {N : Int} {w : World} (h : EntBox bx st N w) (o : Nat) : w.frozen? ⟨bx, o, none⟩ = false := by
  unfold EntBox at h
  simp [World.frozen?, h]
def S3 (s m bw : Nat) (k : Nat) : Prop := k = s ∨ k = m ∨ k = bw
/-- What stands in the first loop. -/
structure LatIs (n0 s m bw : Nat) (st : Str) (fl : List EvV) (A : Option Addr) (n c : Nat) (w wr : World) (D : Ents) (N : Int) : Prop where
  S : StIs wr (S3 s m bw) s m (kdVal dL) dL.q D
  R : SlR REv wr (Out (S3 s m bw) wr) A n c fl
  W : EntBox bw st N wr
  B : Below n0 w wr
  lo : ∀ k, S3 s m bw k → n0 ≤ k
  ne : s ≠ bw ∧ m ≠ bw
section
variable {n0 s m bw : Nat} {st : Str} {fl : List EvV} {A : Option Addr} {n c : Nat} {w wr w' : World} {D D' : Ents} {N : Int}
theorem LatIs.ext (h : LatIs n0 s m bw st fl A n c w wr D N) (hE : Ext wr w') : LatIs n0 s m bw st fl A n c w w' D N :=
  ⟨h.S.ext hE, slR_more h.R hE fun _ hk => .inl hk, h.W.ext hE, h.B.trans (hE.mono (Nat.le_trans (h.lo _ h.S.sIn) (Nat.le_of_lt h.S.lt.1))), h.lo, h.ne⟩
theorem LatIs.step (h : LatIs n0 s m bw st fl A n c w wr D N) (hS : StIs w' (S3 s m bw) s m (kdVal dL) dL.q D') (hk : Kept2 s m wr w') : LatIs n0 s m bw st fl A n c w w' D' N :=
  ⟨hS, slR_kept h.R hk h.S.sIn h.S.mIn, h.W.kept hk (fun e => h.ne.1 e.symm) (fun e => h.ne.2 e.symm), h.B.trans (hk.below (h.lo _ h.S.sIn) (h.lo _ h.S.mIn) (Nat.le_trans (h.lo _ h.S.sIn) (Nat.le_of_lt h.S.lt.1))), h.lo, h.ne⟩
theorem LatIs.put (h : LatIs n0 s m bw st fl A n c w wr D N) (v : Int) : LatIs n0 s m bw st fl A n c w (wr.setCell ⟨bw, 1, none⟩ (.int .i64 v)) D v := by
  have hk : Kept2 bw bw wr (wr.setCell ⟨bw, 1, none⟩ (.int .i64 v)) := ⟨rfl, rfl, rfl, by simp, fun k hk h1 _ => heap_setCell_other wr ⟨bw, 1, none⟩ k _ (fun e => h1 e)⟩
  have hb : S3 s m bw bw := .inr (.inr rfl)
  exact ⟨h.S.kept hk hb hb h.ne.1 h.ne.1 h.ne.2 h.ne.2, slR_kept h.R hk hb hb, h.W.set v, h.B.trans (hk.below (h.lo _ hb) (h.lo _ hb) (Nat.le_trans (h.lo _ h.S.sIn) (Nat.le_of_lt h.S.lt.1))), h.lo, h.ne⟩
end
set_option maxRecDepth 100000 in
set_option maxHeartbeats 4000000 in
theorem foldLatest_in (A : Option Addr) (n c : Nat) (l : List EvV) (st : Str) (w : World) (hl : SlR REv w (· < w.heap.size) A n c l) (hst : Short st) :
    Calls Try.prog 5 #[.slice A n c, .string (str st)] w fun e w' => e = .returned (.bool true) ∧ Below w.heap.size w w' := by
  have hn := hid hl.1
  have hnc := hl.2.1
  have hcm := hl.2.2.1
  have Hl := hid hl
  clear hl
  go_enter Try.func5, Try.ntmps5
  go_wp2_with fail
  refine (shown_at w).mono ?_
  rintro e w0 ⟨rfl, hE0⟩
  have HE0 := hid hE0
  clear hE0
  go_wp2_with fail
  refine (all_at w0).mono ?_
  rintro e wa ⟨Aa, rfl, hA, hEa⟩
  have HA := hid (show SlR RCl wa (· < wa.heap.size) Aa 1 1 [allC] from hA.mono fun k hk => hk.2); have HEa := hid hEa
  clear hA hEa
  go_wp2_with fail
  have hnew := foldNew_at (d := dL) HA.out
  unfold defVal at hnew
  refine hnew.mono ?_
  clear hnew
  rintro e w1 ⟨hEb, hres⟩
  rcases hres with ⟨h, -⟩ | ⟨-, s, m, rfl, hss, hms, hN⟩
  · exact absurd dL_may h
  have HEs := hid (HEa.out.trans' hEb); have HNs := hid hN
  have hss := Nat.le_trans HEa.out.size hss
  have hms := Nat.le_trans HEa.out.size hms
  clear hEb hN HA HEa
  have HS := hid (HNs.out.is (S := fun k => k = s ∨ k = m) (fun k hk => .inr hk) (.inl rfl) (.inr rfl))
  have HE1 := hid (HE0.out.trans' HEs.out)
  have hss := Nat.le_trans HE0.out.size hss
  have hms := Nat.le_trans HE0.out.size hms
  clear HNs HE0 HEs
  go_wp2_with fail
  refine (few_at (Hl.out.ext fun k hk => HE1.out.block k hk) (fun k hk => Nat.lt_of_lt_of_le hk HE1.out.size)).mono ?_
  rintro e wF ⟨v, rfl, hO, hE⟩
  obtain ⟨AF, cF, rfl, hR⟩ := ownK_out (S := fun k => k = s ∨ k = m) hO (fun k hk => ⟨Nat.lt_of_lt_of_le hk (Nat.le_trans HE1.out.size hE.size), fun h => by rcases h with h | h <;> omega⟩) (fun k hk => by
    have h1 := HS.out.lt
    rcases hk with h | h <;> omega)
  have HEw := hid (ext_alloc wF (.cells #[.string (str st), .int .i64 0] 53))
  have hml := HS.out.lt
  have hle := hE.size
  have HI := hid (show LatIs w.heap.size s m wF.heap.size st (fewF l) AF (fewF l).length cF w (wF.alloc (.cells #[.string (str st), .int .i64 0] 53)) [] 0 from
    ⟨HS.out.more (hE.trans' HEw.out) (fun k hk => by rcases hk with h | h | h; exact .inl (.inl h); exact .inl (.inr h); right; omega) (.inl rfl) (.inr (.inl rfl)),
     slR_more hR HEw.out (fun k hk => by rcases hk with h | h | h; exact .inl (.inl h); exact .inl (.inr h); right; omega), heap_alloc_last _ _,
     HE1.out.trans' (hE.trans' HEw.out), fun k hk => by have := HE1.out.size; rcases hk with h | h | h <;> omega, by omega, by omega⟩)
  have Hmay := hid (show ∀ e ∈ fewF l, mayEv e = 0 from fun e he => few_may he)
  have hfl := few_len l
  have hncF := hR.2.1
  have hcmF := hR.2.2.1
  clear hO hE hR HS HE1 hml hle hss hms Hl hn hnc hcm
  generalize fewF l = fl at *
  have Hsm := hid (show ∀ e ∈ fl, SmallE e from fun e he => small_may (Hmay.out e he))
  generalize hnn : fl.length = nF at *
  have HnF := hid hnn
  clear hnn
  have hob := fun i => okD_fold (d := dL) (fl.take i) (fun e he => Hsm.out e (List.mem_of_mem_take he)) (by rw [List.length_take]; have := HnF.out; omega)
  have Hlen := hid (show ∀ i, (foldE dL [] (fl.take i)).length + 1000 < 1000000 from fun i => by have := (hob i).2; rw [List.length_take] at this; have := HnF.out; omega)
  have Hfit := hid (show ∀ i, FitB 2305843009213693952 (foldE dL [] (fl.take i)) from fun i => (hob i).1.fit.le (by decide))
  clear hob
  go_wp2_with fail
  clear HEw
  generalize wF.heap.size = bw at *
  generalize wF.alloc (.cells #[.string (str st), .int .i64 0] 53) = wA at *
  go_loopw [9, 10] (fun u i wr => ∃ j : Nat, j ≤ nF ∧ i = .int .i64 (j : Int) ∧ u = .bool (lastW st (fl.take j)).isSome ∧ Hid (LatIs w.heap.size s m bw st fl AF nF cF w wr (foldE dL [] (fl.take j)) ((lastW st (fl.take j)).getD 0))) (fun _ i _ => nF - (intOf i).toNat)
  case atStart => exact ⟨0, by omega, rfl, rfl, HI⟩
  case round =>
    obtain ⟨j, hj, rfl, rfl, HT⟩ := hrel
    clear HI
    by_cases hlt : j < nF
    · have hjx : j < fl.length := by have := HnF.out; omega
      have hlt' : (j : Int) < (nF : Int) := by omega
      have hk00 : ¬ ((j : Int) < 0) := by omega
      have hk0 : (0 : Int) ≤ (j : Int) := by omega
      have Hse := hid (Hsm.out _ (List.getElem_mem hjx))
      have Hda := hid (foldE_take dL [] hjx)
      have Hla := hid (lastW_take st hjx)
      obtain ⟨b0, o0, T, t1, t2, U, u1, u2, hA0, f0, f1, f2, f3, hev⟩ := evS_at ((hid HT.out.R)).out j hjx
      cases hA0
      have Hev := hid hev
      clear hev
      generalize hge : fl[j] = e at *
      have Hge := hid hge
      clear hge
      go_wp2_with fail
      have hst := step_at (p := 0) (vr := 0) HT.out.S Hev.out Hse.out (Hlen.out j) (Hfit.out j)
      unfold recVal at hst
      refine hst.mono ?_
      clear hst f0 f1 f2 f3
      rintro x w5 ⟨rfl, hS, hK⟩
      rw [← Hda.out] at hS
      have HT5 := hid (HT.out.step hS hK)
      clear hS hK HT Hev Hda
      generalize (StepF dL e (foldE dL [] (fl.take j))).1 = z1
      generalize foldE dL [] (fl.take j) = D0 at *
      obtain ⟨b0, o0, T, t1, t2, U, u1, u2, hA0, f0, f1, f2, f3, hev⟩ := evS_at ((hid HT5.out.R)).out j hjx
      cases hA0
      have Hev := hid hev
      clear hev
      rw [Hge.out] at f0 f1 Hev
      go_wp2_with fail
      have hcc := refValue_at Hev.out.is [110]
      unfold evVal at hcc
      refine hcc.mono ?_
      clear hcc f0 f1 f2 f3
      rintro x w8 ⟨rfl, hE⟩
      have HT8 := hid (HT5.out.ext hE)
      clear hE HT5 Hev
      have Hy := fun h1 h2 => hid (Hla.out.trans (next_yes (o := lastW st (fl.take j)) (e := e) h1 h2))
      have Hn := fun h => hid (Hla.out.trans (next_no (st := st) (o := lastW st (fl.take j)) (e := e) h))
      generalize (valF e.fields [110]).getD 0 = v at *
      generalize (valF e.fields [110]).isSome = vb at *
      obtain ⟨b0, o0, T, t1, t2, U, u1, u2, hA0, f0, f1, f2, f3, hev⟩ := evS_at ((hid HT8.out.R)).out j hjx
      cases hA0
      have Hev := hid hev
      clear hev
      rw [Hge.out] at f0 f1 Hev
      clear f1 f2 f3 Hev
      cases vb
      · have hno := Hn (.inl rfl)
        go_wp2_with fail
        go_roundw
        case rel => exact ⟨j + 1, by omega, by go_num, by rw [hno.out], by rw [hno.out]; exact HT8⟩
        case measure => simp [intOf]; omega
      · have hstl := str_toList
        cases hs : (e.st == st)
        · have hno := Hn (.inr (fun h => by rw [h] at hs; simp at hs))
          go_wp2_with fail
          go_roundw
          case rel => exact ⟨j + 1, by omega, by go_num, by rw [hno.out], by rw [hno.out]; exact HT8⟩
          case measure => simp [intOf]; omega
        · have hye := Hy rfl (by simpa using hs)
          obtain ⟨g0, g1⟩ := HT8.out.W.cells
          have fz := HT8.out.W.free 1
          go_wp2_with fail
          go_roundw
          case rel => exact ⟨j + 1, by omega, by go_num, by rw [hye.out]; rfl, by rw [hye.out]; exact hid (HT8.out.put v)⟩
          case measure => simp [intOf]; omega
    · obtain rfl : j = nF := by omega
      have hlt' : ¬ ((j : Int) < (j : Int)) := by omega
      have hall : fl.take j = fl := List.take_of_length_le (by have := HnF.out; omega)
      rw [hall] at HT ⊢
      have Hl1 := hid (show (foldE dL [] fl).length < 1000000 by have := Hlen.out j; rw [hall] at this; omega)
      clear hall
      have Hany := hid (lat_any st fl)
      have Hsame := hid (fun (i : Nat) (hi : i < (foldE dL [] fl).length) => lat_same (st := st) HT.out.S.map.up hi)
      generalize foldE dL [] fl = DD at *
      generalize (lastW st fl).getD 0 = NN at *
      generalize (lastW st fl).isSome = fb at *
      go_wp2_with fail
      refine (entries_at HT.out.S Hl1.out).mono ?_
      rintro e w9 ⟨v, rfl, hO, hE9⟩
      obtain ⟨AE, cE, rfl, hRa⟩ := ownK_out (S := fun _ => False) hO (fun k hk => hk.elim) (fun k hk => hk.elim)
      have HR := hid hRa
      have HT9 := hid (HT.out.ext hE9)
      have hndc := hRa.2.1
      have hcmE := hRa.2.2.1
      clear hO hE9 hRa HT
      generalize hlb : DD.length = lb at HR hndc ⊢
      have Hlb := hid hlb
      clear hlb
      have Hgd := hid (show ∀ (op : BinOp) (x y : Operand) (xs ys : Array Value) (w : World), (eqGuard op 53 x y (.agg xs) (.agg ys)).run Try.prog w = .ok () w from fun op x y xs ys w => run_eqGuard_agg w op _ x y xs ys (by kernel_rfl))
      go_wp2_with fail
      go_loopw [14, 15] (fun u i wr => ∃ k : Nat, k ≤ lb ∧ i = .int .i64 (k : Int) ∧ u = .bool ((DD.take k).any (fun p => p.1 == st)) ∧ Hid (Ext w9 wr)) (fun _ i _ => lb - (intOf i).toNat)
      case atStart => exact ⟨0, by omega, rfl, rfl, Below.refl _ _⟩
      case round =>
        obtain ⟨k, hk, rfl, rfl, HE⟩ := hrel
        by_cases hlt : k < lb
        · have hkx : k < DD.length := by have := Hlb.out; omega
          have hlt' : (k : Int) < (lb : Int) := by omega
          have hk00 : ¬ ((k : Int) < 0) := by omega
          have hk0 : (0 : Int) ≤ (k : Int) := by omega
          obtain ⟨b, o, rfl, -, f0, f1, -⟩ := field_at HR.out k hkx
          have HF := hid (And.intro (cell_below HE.out f0) (cell_below HE.out f1))
          have HG := hid (And.intro (cell_below HE.out HT9.out.W.cells.1) (cell_below HE.out HT9.out.W.cells.2))
          have Hnx := hid (any_take st hkx)
          have Hsk := hid (Hsame.out k hkx)
          clear f0 f1
          have hstl := str_toList
          generalize DD[k].1 = x at *
          generalize DD[k].2 = y at *
          obtain ⟨f0, f1⟩ := HF.out
          generalize (DD.take k).any (fun p => p.1 == st) = ub at *
          cases hpx : (x == st)
          · have hu : (DD.take (k + 1)).any (fun p => p.1 == st) = ub := by rw [Hnx.out, hpx]; simp
            have Hu := hid hu
            clear hu
            cases ub
            ·
              go_wp2_with fail
              apply wp_drawn [isV _, isV _, isV _, isV _, isV _, isV _, isV (.bool false), isV (.bool false), anyV, anyV, anyV, anyV, anyV, anyV, isV (.bool false)] (by kernel_rfl)
              · kernel_rfl
              · refine ⟨?las0, ?las1, ?las2, ?las3, ?las4, ?las5, ?las6, ?las7, ?las8, ?las9, ?las10, ?las11, ?las12, ?las13, ?las14, trivial⟩
                case las0 =>
                  intro v W hE hd; simp only [Region.wanted, ↓reduceIte]; (try simp [deps, waitsOn, Region.binds, knowing, isV, ownsV, anyV] at hd); simp only [putAll, List.take_succ_cons, List.take_zero, List.drop_succ_cons, List.drop_zero, Act.put, List.setIfInBounds_toArray, List.set_cons_zero, List.set_cons_succ, Nat.zero_add, Nat.reduceAdd]; go_simp; exact ⟨Below.refl _ _, rfl⟩
                case las1 =>
                  intro v W hE hd; simp only [Region.wanted, ↓reduceIte]; (try simp [deps, waitsOn, Region.binds, knowing, isV, ownsV, anyV] at hd); simp only [putAll, List.take_succ_cons, List.take_zero, List.drop_succ_cons, List.drop_zero, Act.put, List.setIfInBounds_toArray, List.set_cons_zero, List.set_cons_succ, Nat.zero_add, Nat.reduceAdd]; go_simp; exact ⟨Below.refl _ _, rfl⟩
                case las2 =>
                  intro v W hE hd; simp only [Region.wanted, ↓reduceIte]; (try simp [deps, waitsOn, Region.binds, knowing, isV, ownsV, anyV] at hd); simp only [putAll, List.take_succ_cons, List.take_zero, List.drop_succ_cons, List.drop_zero, Act.put, List.setIfInBounds_toArray, List.set_cons_zero, List.set_cons_succ, Nat.zero_add, Nat.reduceAdd]; go_simp; exact ⟨Below.refl _ _, rfl⟩
                case las3 =>
                  intro v W hE hd; simp only [Region.wanted, ↓reduceIte]; (try simp [deps, waitsOn, Region.binds, knowing, isV, ownsV, anyV] at hd); simp only [putAll, List.take_succ_cons, List.take_zero, List.drop_succ_cons, List.drop_zero, Act.put, List.setIfInBounds_toArray, List.set_cons_zero, List.set_cons_succ, Nat.zero_add, Nat.reduceAdd]; go_simp; exact ⟨Below.refl _ _, rfl⟩
                case las4 =>
                  intro v W hE hd; simp only [Region.wanted, ↓reduceIte]; (try simp [deps, waitsOn, Region.binds, knowing, isV, ownsV, anyV] at hd); simp only [putAll, List.take_succ_cons, List.take_zero, List.drop_succ_cons, List.drop_zero, Act.put, List.setIfInBounds_toArray, List.set_cons_zero, List.set_cons_succ, Nat.zero_add, Nat.reduceAdd]
                  have e0 := cell_below hE HF.out.1
                  go_simp
                  exact ⟨Below.refl _ _, rfl⟩
                case las5 =>
                  intro v W hE hd; simp only [Region.wanted, ↓reduceIte]; (try simp [deps, waitsOn, Region.binds, knowing, isV, ownsV, anyV] at hd); simp only [putAll, List.take_succ_cons, List.take_zero, List.drop_succ_cons, List.drop_zero, Act.put, List.setIfInBounds_toArray, List.set_cons_zero, List.set_cons_succ, Nat.zero_add, Nat.reduceAdd]; go_simp; exact ⟨Below.refl _ _, rfl⟩
                case las6 =>
                  intro v W hE hd; simp only [Region.wanted, ↓reduceIte]; (try simp [deps, waitsOn, Region.binds, knowing, isV, ownsV, anyV] at hd); simp only [putAll, List.take_succ_cons, List.take_zero, List.drop_succ_cons, List.drop_zero, Act.put, List.setIfInBounds_toArray, List.set_cons_zero, List.set_cons_succ, Nat.zero_add, Nat.reduceAdd]
                  go_simp
                  exact ⟨Below.refl _ _, by first | rfl | simp_all⟩
                case las7 =>
                  intro v W hE hd; simp only [Region.wanted, ↓reduceIte]; (try simp [deps, waitsOn, Region.binds, knowing, isV, ownsV, anyV] at hd); simp only [putAll, List.take_succ_cons, List.take_zero, List.drop_succ_cons, List.drop_zero, Act.put, List.setIfInBounds_toArray, List.set_cons_zero, List.set_cons_succ, Nat.zero_add, Nat.reduceAdd]
                  go_simp
                  exact ⟨Below.refl _ _, rfl⟩
                case las8 =>
                  intro v W hE hd; (try simp [deps, waitsOn, Region.binds, knowing, isV, ownsV, anyV] at hd); simp only [putAll, List.take_succ_cons, List.take_zero, List.drop_succ_cons, List.drop_zero, Act.put, List.setIfInBounds_toArray, List.set_cons_zero, List.set_cons_succ, Nat.zero_add, Nat.reduceAdd]; rw [if_neg (by simp [Region.wanted, yielded, hd])]; exact trivial
                case las9 =>
                  intro v W hE hd; (try simp [deps, waitsOn, Region.binds, knowing, isV, ownsV, anyV] at hd); simp only [putAll, List.take_succ_cons, List.take_zero, List.drop_succ_cons, List.drop_zero, Act.put, List.setIfInBounds_toArray, List.set_cons_zero, List.set_cons_succ, Nat.zero_add, Nat.reduceAdd]; rw [if_neg (by simp [Region.wanted, yielded, hd])]; exact trivial
                case las10 =>
                  intro v W hE hd; (try simp [deps, waitsOn, Region.binds, knowing, isV, ownsV, anyV] at hd); simp only [putAll, List.take_succ_cons, List.take_zero, List.drop_succ_cons, List.drop_zero, Act.put, List.setIfInBounds_toArray, List.set_cons_zero, List.set_cons_succ, Nat.zero_add, Nat.reduceAdd]; rw [if_neg (by simp [Region.wanted, yielded, hd])]; exact trivial
                case las11 =>
                  intro v W hE hd; (try simp [deps, waitsOn, Region.binds, knowing, isV, ownsV, anyV] at hd); simp only [putAll, List.take_succ_cons, List.take_zero, List.drop_succ_cons, List.drop_zero, Act.put, List.setIfInBounds_toArray, List.set_cons_zero, List.set_cons_succ, Nat.zero_add, Nat.reduceAdd]; rw [if_neg (by simp [Region.wanted, yielded, hd])]; exact trivial
                case las12 =>
                  intro v W hE hd; (try simp [deps, waitsOn, Region.binds, knowing, isV, ownsV, anyV] at hd); simp only [putAll, List.take_succ_cons, List.take_zero, List.drop_succ_cons, List.drop_zero, Act.put, List.setIfInBounds_toArray, List.set_cons_zero, List.set_cons_succ, Nat.zero_add, Nat.reduceAdd]; rw [if_neg (by simp [Region.wanted, yielded, hd])]; exact trivial
                case las13 =>
                  intro v W hE hd; (try simp [deps, waitsOn, Region.binds, knowing, isV, ownsV, anyV] at hd); simp only [putAll, List.take_succ_cons, List.take_zero, List.drop_succ_cons, List.drop_zero, Act.put, List.setIfInBounds_toArray, List.set_cons_zero, List.set_cons_succ, Nat.zero_add, Nat.reduceAdd]; rw [if_neg (by simp [Region.wanted, yielded, hd])]; exact trivial
                case las14 =>
                  intro v W hE hd; simp only [Region.wanted, ↓reduceIte]; (try simp [deps, waitsOn, Region.binds, knowing, isV, ownsV, anyV] at hd); simp only [putAll, List.take_succ_cons, List.take_zero, List.drop_succ_cons, List.drop_zero, Act.put, List.setIfInBounds_toArray, List.set_cons_zero, List.set_cons_succ, Nat.zero_add, Nat.reduceAdd]
                  go_simp
                  exact ⟨Below.refl _ _, rfl⟩
              · rintro v W9 hE ⟨-, -, -, -, -, -, -, -, -, -, -, -, -, -, e14, -⟩
                have e14 := (show v 14 = _ from e14)
                simp only [putAll, List.take_succ_cons, List.take_zero, List.drop_succ_cons, List.drop_zero, Act.put, List.setIfInBounds_toArray, List.set_cons_zero, List.set_cons_succ, Nat.zero_add, Nat.reduceAdd]
                rw [e14]
                have HE9 := hid (HE.out.trans' hE)
                clear e14 hE
                go_wp2_with fail
                go_roundw
                case rel => exact ⟨k + 1, by omega, by go_num, by rw [Hu.out], HE9⟩
                case measure => simp [intOf]; omega
            ·
              go_wp2_with fail
              apply wp_drawn [isV _, isV _, isV _, isV _, isV _, isV _, isV (.bool false), isV (.bool false), anyV, anyV, anyV, anyV, anyV, anyV, isV (.bool false)] (by kernel_rfl)
              · kernel_rfl
              · refine ⟨?lbs0, ?lbs1, ?lbs2, ?lbs3, ?lbs4, ?lbs5, ?lbs6, ?lbs7, ?lbs8, ?lbs9, ?lbs10, ?lbs11, ?lbs12, ?lbs13, ?lbs14, trivial⟩
                case lbs0 =>
                  intro v W hE hd; simp only [Region.wanted, ↓reduceIte]; (try simp [deps, waitsOn, Region.binds, knowing, isV, ownsV, anyV] at hd); simp only [putAll, List.take_succ_cons, List.take_zero, List.drop_succ_cons, List.drop_zero, Act.put, List.setIfInBounds_toArray, List.set_cons_zero, List.set_cons_succ, Nat.zero_add, Nat.reduceAdd]; go_simp; exact ⟨Below.refl _ _, rfl⟩
                case lbs1 =>
                  intro v W hE hd; simp only [Region.wanted, ↓reduceIte]; (try simp [deps, waitsOn, Region.binds, knowing, isV, ownsV, anyV] at hd); simp only [putAll, List.take_succ_cons, List.take_zero, List.drop_succ_cons, List.drop_zero, Act.put, List.setIfInBounds_toArray, List.set_cons_zero, List.set_cons_succ, Nat.zero_add, Nat.reduceAdd]; go_simp; exact ⟨Below.refl _ _, rfl⟩
                case lbs2 =>
                  intro v W hE hd; simp only [Region.wanted, ↓reduceIte]; (try simp [deps, waitsOn, Region.binds, knowing, isV, ownsV, anyV] at hd); simp only [putAll, List.take_succ_cons, List.take_zero, List.drop_succ_cons, List.drop_zero, Act.put, List.setIfInBounds_toArray, List.set_cons_zero, List.set_cons_succ, Nat.zero_add, Nat.reduceAdd]; go_simp; exact ⟨Below.refl _ _, rfl⟩
                case lbs3 =>
                  intro v W hE hd; simp only [Region.wanted, ↓reduceIte]; (try simp [deps, waitsOn, Region.binds, knowing, isV, ownsV, anyV] at hd); simp only [putAll, List.take_succ_cons, List.take_zero, List.drop_succ_cons, List.drop_zero, Act.put, List.setIfInBounds_toArray, List.set_cons_zero, List.set_cons_succ, Nat.zero_add, Nat.reduceAdd]; go_simp; exact ⟨Below.refl _ _, rfl⟩
                case lbs4 =>
                  intro v W hE hd; simp only [Region.wanted, ↓reduceIte]; (try simp [deps, waitsOn, Region.binds, knowing, isV, ownsV, anyV] at hd); simp only [putAll, List.take_succ_cons, List.take_zero, List.drop_succ_cons, List.drop_zero, Act.put, List.setIfInBounds_toArray, List.set_cons_zero, List.set_cons_succ, Nat.zero_add, Nat.reduceAdd]
                  have e0 := cell_below hE HF.out.1
                  go_simp
                  exact ⟨Below.refl _ _, rfl⟩
                case lbs5 =>
                  intro v W hE hd; simp only [Region.wanted, ↓reduceIte]; (try simp [deps, waitsOn, Region.binds, knowing, isV, ownsV, anyV] at hd); simp only [putAll, List.take_succ_cons, List.take_zero, List.drop_succ_cons, List.drop_zero, Act.put, List.setIfInBounds_toArray, List.set_cons_zero, List.set_cons_succ, Nat.zero_add, Nat.reduceAdd]; go_simp; exact ⟨Below.refl _ _, rfl⟩
                case lbs6 =>
                  intro v W hE hd; simp only [Region.wanted, ↓reduceIte]; (try simp [deps, waitsOn, Region.binds, knowing, isV, ownsV, anyV] at hd); simp only [putAll, List.take_succ_cons, List.take_zero, List.drop_succ_cons, List.drop_zero, Act.put, List.setIfInBounds_toArray, List.set_cons_zero, List.set_cons_succ, Nat.zero_add, Nat.reduceAdd]
                  go_simp
                  exact ⟨Below.refl _ _, by first | rfl | simp_all⟩
                case lbs7 =>
                  intro v W hE hd; simp only [Region.wanted, ↓reduceIte]; (try simp [deps, waitsOn, Region.binds, knowing, isV, ownsV, anyV] at hd); simp only [putAll, List.take_succ_cons, List.take_zero, List.drop_succ_cons, List.drop_zero, Act.put, List.setIfInBounds_toArray, List.set_cons_zero, List.set_cons_succ, Nat.zero_add, Nat.reduceAdd]
                  go_simp
                  exact ⟨Below.refl _ _, rfl⟩
                case lbs8 =>
                  intro v W hE hd; (try simp [deps, waitsOn, Region.binds, knowing, isV, ownsV, anyV] at hd); simp only [putAll, List.take_succ_cons, List.take_zero, List.drop_succ_cons, List.drop_zero, Act.put, List.setIfInBounds_toArray, List.set_cons_zero, List.set_cons_succ, Nat.zero_add, Nat.reduceAdd]; rw [if_neg (by simp [Region.wanted, yielded, hd])]; exact trivial
                case lbs9 =>
                  intro v W hE hd; (try simp [deps, waitsOn, Region.binds, knowing, isV, ownsV, anyV] at hd); simp only [putAll, List.take_succ_cons, List.take_zero, List.drop_succ_cons, List.drop_zero, Act.put, List.setIfInBounds_toArray, List.set_cons_zero, List.set_cons_succ, Nat.zero_add, Nat.reduceAdd]; rw [if_neg (by simp [Region.wanted, yielded, hd])]; exact trivial
                case lbs10 =>
                  intro v W hE hd; (try simp [deps, waitsOn, Region.binds, knowing, isV, ownsV, anyV] at hd); simp only [putAll, List.take_succ_cons, List.take_zero, List.drop_succ_cons, List.drop_zero, Act.put, List.setIfInBounds_toArray, List.set_cons_zero, List.set_cons_succ, Nat.zero_add, Nat.reduceAdd]; rw [if_neg (by simp [Region.wanted, yielded, hd])]; exact trivial
                case lbs11 =>
                  intro v W hE hd; (try simp [deps, waitsOn, Region.binds, knowing, isV, ownsV, anyV] at hd); simp only [putAll, List.take_succ_cons, List.take_zero, List.drop_succ_cons, List.drop_zero, Act.put, List.setIfInBounds_toArray, List.set_cons_zero, List.set_cons_succ, Nat.zero_add, Nat.reduceAdd]; rw [if_neg (by simp [Region.wanted, yielded, hd])]; exact trivial
                case lbs12 =>
                  intro v W hE hd; (try simp [deps, waitsOn, Region.binds, knowing, isV, ownsV, anyV] at hd); simp only [putAll, List.take_succ_cons, List.take_zero, List.drop_succ_cons, List.drop_zero, Act.put, List.setIfInBounds_toArray, List.set_cons_zero, List.set_cons_succ, Nat.zero_add, Nat.reduceAdd]; rw [if_neg (by simp [Region.wanted, yielded, hd])]; exact trivial
                case lbs13 =>
                  intro v W hE hd; (try simp [deps, waitsOn, Region.binds, knowing, isV, ownsV, anyV] at hd); simp only [putAll, List.take_succ_cons, List.take_zero, List.drop_succ_cons, List.drop_zero, Act.put, List.setIfInBounds_toArray, List.set_cons_zero, List.set_cons_succ, Nat.zero_add, Nat.reduceAdd]; rw [if_neg (by simp [Region.wanted, yielded, hd])]; exact trivial
                case lbs14 =>
                  intro v W hE hd; simp only [Region.wanted, ↓reduceIte]; (try simp [deps, waitsOn, Region.binds, knowing, isV, ownsV, anyV] at hd); simp only [putAll, List.take_succ_cons, List.take_zero, List.drop_succ_cons, List.drop_zero, Act.put, List.setIfInBounds_toArray, List.set_cons_zero, List.set_cons_succ, Nat.zero_add, Nat.reduceAdd]
                  go_simp
                  exact ⟨Below.refl _ _, rfl⟩
              · rintro v W9 hE ⟨-, -, -, -, -, -, -, -, -, -, -, -, -, -, e14, -⟩
                have e14 := (show v 14 = _ from e14)
                simp only [putAll, List.take_succ_cons, List.take_zero, List.drop_succ_cons, List.drop_zero, Act.put, List.setIfInBounds_toArray, List.set_cons_zero, List.set_cons_succ, Nat.zero_add, Nat.reduceAdd]
                rw [e14]
                have HE9 := hid (HE.out.trans' hE)
                clear e14 hE
                go_wp2_with fail
                go_roundw
                case rel => exact ⟨k + 1, by omega, by go_num, by rw [Hu.out], HE9⟩
                case measure => simp [intOf]; omega
          · have hu : (DD.take (k + 1)).any (fun p => p.1 == st) = true := by rw [Hnx.out, hpx]; simp
            have Hu := hid hu
            clear hu
            have hxs : x = st := by simpa using hpx
            have hyn := Hsk.out hxs
            rw [hxs] at HF f0
            rw [hyn] at HF f1
            have Hst := hid hstl
            clear hpx hstl hxs hyn Hsk
            cases ub
            ·
              go_wp2_with fail
              apply wp_drawn [isV _, isV _, isV _, isV _, isV _, isV _, isV (.bool true), isV (.bool true), isV _, isV _, isV _, isV _, isV _, isV (.bool false), isV (.bool false)] (by kernel_rfl)
              · kernel_rfl
              · refine ⟨?lcs0, ?lcs1, ?lcs2, ?lcs3, ?lcs4, ?lcs5, ?lcs6, ?lcs7, ?lcs8, ?lcs9, ?lcs10, ?lcs11, ?lcs12, ?lcs13, ?lcs14, trivial⟩
                case lcs0 =>
                  intro v W hE hd; simp only [Region.wanted, ↓reduceIte]; (try simp [deps, waitsOn, Region.binds, knowing, isV, ownsV, anyV] at hd); simp only [putAll, List.take_succ_cons, List.take_zero, List.drop_succ_cons, List.drop_zero, Act.put, List.setIfInBounds_toArray, List.set_cons_zero, List.set_cons_succ, Nat.zero_add, Nat.reduceAdd]; go_simp; exact ⟨Below.refl _ _, rfl⟩
                case lcs1 =>
                  intro v W hE hd; simp only [Region.wanted, ↓reduceIte]; (try simp [deps, waitsOn, Region.binds, knowing, isV, ownsV, anyV] at hd); simp only [putAll, List.take_succ_cons, List.take_zero, List.drop_succ_cons, List.drop_zero, Act.put, List.setIfInBounds_toArray, List.set_cons_zero, List.set_cons_succ, Nat.zero_add, Nat.reduceAdd]; go_simp; exact ⟨Below.refl _ _, rfl⟩
                case lcs2 =>
                  intro v W hE hd; simp only [Region.wanted, ↓reduceIte]; (try simp [deps, waitsOn, Region.binds, knowing, isV, ownsV, anyV] at hd); simp only [putAll, List.take_succ_cons, List.take_zero, List.drop_succ_cons, List.drop_zero, Act.put, List.setIfInBounds_toArray, List.set_cons_zero, List.set_cons_succ, Nat.zero_add, Nat.reduceAdd]; go_simp; exact ⟨Below.refl _ _, rfl⟩
                case lcs3 =>
                  intro v W hE hd; simp only [Region.wanted, ↓reduceIte]; (try simp [deps, waitsOn, Region.binds, knowing, isV, ownsV, anyV] at hd); simp only [putAll, List.take_succ_cons, List.take_zero, List.drop_succ_cons, List.drop_zero, Act.put, List.setIfInBounds_toArray, List.set_cons_zero, List.set_cons_succ, Nat.zero_add, Nat.reduceAdd]; go_simp; exact ⟨Below.refl _ _, rfl⟩
                case lcs4 =>
                  intro v W hE hd; simp only [Region.wanted, ↓reduceIte]; (try simp [deps, waitsOn, Region.binds, knowing, isV, ownsV, anyV] at hd); simp only [putAll, List.take_succ_cons, List.take_zero, List.drop_succ_cons, List.drop_zero, Act.put, List.setIfInBounds_toArray, List.set_cons_zero, List.set_cons_succ, Nat.zero_add, Nat.reduceAdd]
                  have e0 := cell_below hE HF.out.1
                  go_simp
                  exact ⟨Below.refl _ _, rfl⟩
                case lcs5 =>
                  intro v W hE hd; simp only [Region.wanted, ↓reduceIte]; (try simp [deps, waitsOn, Region.binds, knowing, isV, ownsV, anyV] at hd); simp only [putAll, List.take_succ_cons, List.take_zero, List.drop_succ_cons, List.drop_zero, Act.put, List.setIfInBounds_toArray, List.set_cons_zero, List.set_cons_succ, Nat.zero_add, Nat.reduceAdd]; go_simp; exact ⟨Below.refl _ _, rfl⟩
                case lcs6 =>
                  intro v W hE hd; simp only [Region.wanted, ↓reduceIte]; (try simp [deps, waitsOn, Region.binds, knowing, isV, ownsV, anyV] at hd); simp only [putAll, List.take_succ_cons, List.take_zero, List.drop_succ_cons, List.drop_zero, Act.put, List.setIfInBounds_toArray, List.set_cons_zero, List.set_cons_succ, Nat.zero_add, Nat.reduceAdd]
                  go_simp
                  exact ⟨Below.refl _ _, by first | rfl | simp_all⟩
                case lcs7 =>
                  intro v W hE hd; simp only [Region.wanted, ↓reduceIte]; (try simp [deps, waitsOn, Region.binds, knowing, isV, ownsV, anyV] at hd); simp only [putAll, List.take_succ_cons, List.take_zero, List.drop_succ_cons, List.drop_zero, Act.put, List.setIfInBounds_toArray, List.set_cons_zero, List.set_cons_succ, Nat.zero_add, Nat.reduceAdd]
                  go_simp
                  exact ⟨Below.refl _ _, rfl⟩
                case lcs8 =>
                  intro v W hE hd; (try simp [deps, waitsOn, Region.binds, knowing, isV, ownsV, anyV] at hd); simp only [putAll, List.take_succ_cons, List.take_zero, List.drop_succ_cons, List.drop_zero, Act.put, List.setIfInBounds_toArray, List.set_cons_zero, List.set_cons_succ, Nat.zero_add, Nat.reduceAdd]; rw [if_pos (by simp [Region.wanted, yielded, hd])]; go_simp; exact ⟨Below.refl _ _, rfl⟩
                case lcs9 =>
                  intro v W hE hd; (try simp [deps, waitsOn, Region.binds, knowing, isV, ownsV, anyV] at hd); simp only [putAll, List.take_succ_cons, List.take_zero, List.drop_succ_cons, List.drop_zero, Act.put, List.setIfInBounds_toArray, List.set_cons_zero, List.set_cons_succ, Nat.zero_add, Nat.reduceAdd]; rw [if_pos (by simp [Region.wanted, yielded, hd])]; go_simp; exact ⟨Below.refl _ _, rfl⟩
                case lcs10 =>
                  intro v W hE hd; (try simp [deps, waitsOn, Region.binds, knowing, isV, ownsV, anyV] at hd); simp only [putAll, List.take_succ_cons, List.take_zero, List.drop_succ_cons, List.drop_zero, Act.put, List.setIfInBounds_toArray, List.set_cons_zero, List.set_cons_succ, Nat.zero_add, Nat.reduceAdd]; rw [if_pos (by simp [Region.wanted, yielded, hd])]; go_simp; exact ⟨Below.refl _ _, rfl⟩
                case lcs11 =>
                  intro v W hE hd; (try simp [deps, waitsOn, Region.binds, knowing, isV, ownsV, anyV] at hd); simp only [putAll, List.take_succ_cons, List.take_zero, List.drop_succ_cons, List.drop_zero, Act.put, List.setIfInBounds_toArray, List.set_cons_zero, List.set_cons_succ, Nat.zero_add, Nat.reduceAdd]; rw [if_pos (by simp [Region.wanted, yielded, hd])]
                  have e0 := cell_below hE HF.out.1; have e1 := cell_below hE HF.out.2
                  go_simp
                  exact ⟨Below.refl _ _, rfl⟩
                case lcs12 =>
                  intro v W hE hd; (try simp [deps, waitsOn, Region.binds, knowing, isV, ownsV, anyV] at hd); simp only [putAll, List.take_succ_cons, List.take_zero, List.drop_succ_cons, List.drop_zero, Act.put, List.setIfInBounds_toArray, List.set_cons_zero, List.set_cons_succ, Nat.zero_add, Nat.reduceAdd]; rw [if_pos (by simp [Region.wanted, yielded, hd])]
                  have e0 := cell_below hE HG.out.1; have e1 := cell_below hE HG.out.2
                  go_simp
                  exact ⟨Below.refl _ _, rfl⟩
                case lcs13 =>
                  intro v W hE hd; (try simp [deps, waitsOn, Region.binds, knowing, isV, ownsV, anyV] at hd); simp only [putAll, List.take_succ_cons, List.take_zero, List.drop_succ_cons, List.drop_zero, Act.put, List.setIfInBounds_toArray, List.set_cons_zero, List.set_cons_succ, Nat.zero_add, Nat.reduceAdd]; rw [if_pos (by simp [Region.wanted, yielded, hd])]
                  have hgd := Hgd.out
                  go_simp
                  exact ⟨Below.refl _ _, by first | rfl | simp_all⟩
                case lcs14 =>
                  intro v W hE hd; simp only [Region.wanted, ↓reduceIte]; (try simp [deps, waitsOn, Region.binds, knowing, isV, ownsV, anyV] at hd); simp only [putAll, List.take_succ_cons, List.take_zero, List.drop_succ_cons, List.drop_zero, Act.put, List.setIfInBounds_toArray, List.set_cons_zero, List.set_cons_succ, Nat.zero_add, Nat.reduceAdd]
                  go_simp
                  exact ⟨Below.refl _ _, rfl⟩
              · rintro v W9 hE ⟨-, -, -, -, -, -, -, -, -, -, -, -, -, -, e14, -⟩
                have e14 := (show v 14 = _ from e14)
                simp only [putAll, List.take_succ_cons, List.take_zero, List.drop_succ_cons, List.drop_zero, Act.put, List.setIfInBounds_toArray, List.set_cons_zero, List.set_cons_succ, Nat.zero_add, Nat.reduceAdd]
                rw [e14]
                have HE9 := hid (HE.out.trans' hE)
                clear e14 hE
                go_wp2_with fail
                go_roundw
                case rel => exact ⟨k + 1, by omega, by go_num, by rw [Hu.out], HE9⟩
                case measure => simp [intOf]; omega
            ·
              go_wp2_with fail
              apply wp_drawn [isV _, isV _, isV _, isV _, isV _, isV _, isV (.bool true), isV (.bool true), isV _, isV _, isV _, isV _, isV _, isV (.bool false), isV (.bool false)] (by kernel_rfl)
              · kernel_rfl
              · refine ⟨?lds0, ?lds1, ?lds2, ?lds3, ?lds4, ?lds5, ?lds6, ?lds7, ?lds8, ?lds9, ?lds10, ?lds11, ?lds12, ?lds13, ?lds14, trivial⟩
                case lds0 =>
                  intro v W hE hd; simp only [Region.wanted, ↓reduceIte]; (try simp [deps, waitsOn, Region.binds, knowing, isV, ownsV, anyV] at hd); simp only [putAll, List.take_succ_cons, List.take_zero, List.drop_succ_cons, List.drop_zero, Act.put, List.setIfInBounds_toArray, List.set_cons_zero, List.set_cons_succ, Nat.zero_add, Nat.reduceAdd]; go_simp; exact ⟨Below.refl _ _, rfl⟩
                case lds1 =>
                  intro v W hE hd; simp only [Region.wanted, ↓reduceIte]; (try simp [deps, waitsOn, Region.binds, knowing, isV, ownsV, anyV] at hd); simp only [putAll, List.take_succ_cons, List.take_zero, List.drop_succ_cons, List.drop_zero, Act.put, List.setIfInBounds_toArray, List.set_cons_zero, List.set_cons_succ, Nat.zero_add, Nat.reduceAdd]; go_simp; exact ⟨Below.refl _ _, rfl⟩
                case lds2 =>
                  intro v W hE hd; simp only [Region.wanted, ↓reduceIte]; (try simp [deps, waitsOn, Region.binds, knowing, isV, ownsV, anyV] at hd); simp only [putAll, List.take_succ_cons, List.take_zero, List.drop_succ_cons, List.drop_zero, Act.put, List.setIfInBounds_toArray, List.set_cons_zero, List.set_cons_succ, Nat.zero_add, Nat.reduceAdd]; go_simp; exact ⟨Below.refl _ _, rfl⟩
                case lds3 =>
                  intro v W hE hd; simp only [Region.wanted, ↓reduceIte]; (try simp [deps, waitsOn, Region.binds, knowing, isV, ownsV, anyV] at hd); simp only [putAll, List.take_succ_cons, List.take_zero, List.drop_succ_cons, List.drop_zero, Act.put, List.setIfInBounds_toArray, List.set_cons_zero, List.set_cons_succ, Nat.zero_add, Nat.reduceAdd]; go_simp; exact ⟨Below.refl _ _, rfl⟩
                case lds4 =>
                  intro v W hE hd; simp only [Region.wanted, ↓reduceIte]; (try simp [deps, waitsOn, Region.binds, knowing, isV, ownsV, anyV] at hd); simp only [putAll, List.take_succ_cons, List.take_zero, List.drop_succ_cons, List.drop_zero, Act.put, List.setIfInBounds_toArray, List.set_cons_zero, List.set_cons_succ, Nat.zero_add, Nat.reduceAdd]
                  have e0 := cell_below hE HF.out.1
                  go_simp
                  exact ⟨Below.refl _ _, rfl⟩
                case lds5 =>
                  intro v W hE hd; simp only [Region.wanted, ↓reduceIte]; (try simp [deps, waitsOn, Region.binds, knowing, isV, ownsV, anyV] at hd); simp only [putAll, List.take_succ_cons, List.take_zero, List.drop_succ_cons, List.drop_zero, Act.put, List.setIfInBounds_toArray, List.set_cons_zero, List.set_cons_succ, Nat.zero_add, Nat.reduceAdd]; go_simp; exact ⟨Below.refl _ _, rfl⟩
                case lds6 =>
                  intro v W hE hd; simp only [Region.wanted, ↓reduceIte]; (try simp [deps, waitsOn, Region.binds, knowing, isV, ownsV, anyV] at hd); simp only [putAll, List.take_succ_cons, List.take_zero, List.drop_succ_cons, List.drop_zero, Act.put, List.setIfInBounds_toArray, List.set_cons_zero, List.set_cons_succ, Nat.zero_add, Nat.reduceAdd]
                  go_simp
                  exact ⟨Below.refl _ _, by first | rfl | simp_all⟩
                case lds7 =>
                  intro v W hE hd; simp only [Region.wanted, ↓reduceIte]; (try simp [deps, waitsOn, Region.binds, knowing, isV, ownsV, anyV] at hd); simp only [putAll, List.take_succ_cons, List.take_zero, List.drop_succ_cons, List.drop_zero, Act.put, List.setIfInBounds_toArray, List.set_cons_zero, List.set_cons_succ, Nat.zero_add, Nat.reduceAdd]
                  go_simp
                  exact ⟨Below.refl _ _, rfl⟩
                case lds8 =>
                  intro v W hE hd; (try simp [deps, waitsOn, Region.binds, knowing, isV, ownsV, anyV] at hd); simp only [putAll, List.take_succ_cons, List.take_zero, List.drop_succ_cons, List.drop_zero, Act.put, List.setIfInBounds_toArray, List.set_cons_zero, List.set_cons_succ, Nat.zero_add, Nat.reduceAdd]; rw [if_pos (by simp [Region.wanted, yielded, hd])]; go_simp; exact ⟨Below.refl _ _, rfl⟩
                case lds9 =>
                  intro v W hE hd; (try simp [deps, waitsOn, Region.binds, knowing, isV, ownsV, anyV] at hd); simp only [putAll, List.take_succ_cons, List.take_zero, List.drop_succ_cons, List.drop_zero, Act.put, List.setIfInBounds_toArray, List.set_cons_zero, List.set_cons_succ, Nat.zero_add, Nat.reduceAdd]; rw [if_pos (by simp [Region.wanted, yielded, hd])]; go_simp; exact ⟨Below.refl _ _, rfl⟩
                case lds10 =>
                  intro v W hE hd; (try simp [deps, waitsOn, Region.binds, knowing, isV, ownsV, anyV] at hd); simp only [putAll, List.take_succ_cons, List.take_zero, List.drop_succ_cons, List.drop_zero, Act.put, List.setIfInBounds_toArray, List.set_cons_zero, List.set_cons_succ, Nat.zero_add, Nat.reduceAdd]; rw [if_pos (by simp [Region.wanted, yielded, hd])]; go_simp; exact ⟨Below.refl _ _, rfl⟩
                case lds11 =>
                  intro v W hE hd; (try simp [deps, waitsOn, Region.binds, knowing, isV, ownsV, anyV] at hd); simp only [putAll, List.take_succ_cons, List.take_zero, List.drop_succ_cons, List.drop_zero, Act.put, List.setIfInBounds_toArray, List.set_cons_zero, List.set_cons_succ, Nat.zero_add, Nat.reduceAdd]; rw [if_pos (by simp [Region.wanted, yielded, hd])]
                  have e0 := cell_below hE HF.out.1; have e1 := cell_below hE HF.out.2
                  go_simp
                  exact ⟨Below.refl _ _, rfl⟩
                case lds12 =>
                  intro v W hE hd; (try simp [deps, waitsOn, Region.binds, knowing, isV, ownsV, anyV] at hd); simp only [putAll, List.take_succ_cons, List.take_zero, List.drop_succ_cons, List.drop_zero, Act.put, List.setIfInBounds_toArray, List.set_cons_zero, List.set_cons_succ, Nat.zero_add, Nat.reduceAdd]; rw [if_pos (by simp [Region.wanted, yielded, hd])]
                  have e0 := cell_below hE HG.out.1; have e1 := cell_below hE HG.out.2
                  go_simp
                  exact ⟨Below.refl _ _, rfl⟩
                case lds13 =>
                  intro v W hE hd; (try simp [deps, waitsOn, Region.binds, knowing, isV, ownsV, anyV] at hd); simp only [putAll, List.take_succ_cons, List.take_zero, List.drop_succ_cons, List.drop_zero, Act.put, List.setIfInBounds_toArray, List.set_cons_zero, List.set_cons_succ, Nat.zero_add, Nat.reduceAdd]; rw [if_pos (by simp [Region.wanted, yielded, hd])]
                  have hgd := Hgd.out
                  go_simp
                  exact ⟨Below.refl _ _, by first | rfl | simp_all⟩
                case lds14 =>
                  intro v W hE hd; simp only [Region.wanted, ↓reduceIte]; (try simp [deps, waitsOn, Region.binds, knowing, isV, ownsV, anyV] at hd); simp only [putAll, List.take_succ_cons, List.take_zero, List.drop_succ_cons, List.drop_zero, Act.put, List.setIfInBounds_toArray, List.set_cons_zero, List.set_cons_succ, Nat.zero_add, Nat.reduceAdd]
                  go_simp
                  exact ⟨Below.refl _ _, rfl⟩
              · rintro v W9 hE ⟨-, -, -, -, -, -, -, -, -, -, -, -, -, -, e14, -⟩
                have e14 := (show v 14 = _ from e14)
                simp only [putAll, List.take_succ_cons, List.take_zero, List.drop_succ_cons, List.drop_zero, Act.put, List.setIfInBounds_toArray, List.set_cons_zero, List.set_cons_succ, Nat.zero_add, Nat.reduceAdd]
                rw [e14]
                have HE9 := hid (HE.out.trans' hE)
                clear e14 hE
                go_wp2_with fail
                go_roundw
                case rel => exact ⟨k + 1, by omega, by go_num, by rw [Hu.out], HE9⟩
                case measure => simp [intOf]; omega
        · obtain rfl : k = lb := by omega
          have hlt' : ¬ ((k : Int) < (k : Int)) := by omega
          have hall : DD.take k = DD := List.take_of_length_le (by have := Hlb.out; omega)
          rw [hall, Hany.out]
          have HEfin := hid (HT9.out.ext HE.out).B
          cases fb
          · go_wp2
            go_ret
            exact ⟨rfl, HEfin.out⟩
          · go_wp2
            go_ret
            exact ⟨rfl, HEfin.out⟩
end Go.Proofs.Ytpmmapcjohmniaa
