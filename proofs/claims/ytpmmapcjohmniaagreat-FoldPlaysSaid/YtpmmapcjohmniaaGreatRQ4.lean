/- The reference's set. -/
import Derived.Test.YtpmmapcjohmniaaGreatRQ3
import Derived.Test.YtpmmapcjohmniaaGreatFoRun
import Derived.Deep.DeepCutAuto
import Derived.WalkLawsBesides
namespace Go.Proofs.YtpmmapcjohmniaaGreat
open Go Go.RowKit
set_option linter.unusedSimpArgs false
set_option linter.unusedVariables false

theorem RefSt.setL {w : World} {S : Nat → Prop} {y : Nat} {d : DefV} {D D' : Ents} (h : RefSt w S y d D) {B : Option Addr} {b : Nat} (hL : SlR REnt w (Out S w) B D'.length b D') :
    RefSt (w.setCell ⟨y, 3, none⟩ (.slice B D'.length b)) S y d D' ∧ Kept2 y y w (w.setCell ⟨y, 3, none⟩ (.slice B D'.length b)) := by
  obtain ⟨A, c, B0, m, b0, h1, h2, h3⟩ := h.box
  have hk : Kept2 y y w (w.setCell ⟨y, 3, none⟩ (.slice B D'.length b)) := ⟨rfl, rfl, rfl, by simp, fun k hk h1 _ => heap_setCell_other w ⟨y, 3, none⟩ k _ (fun e => h1 e)⟩
  exact ⟨⟨⟨A, c, B, D'.length, b, heap_setCell_row h1 _, slR_kept h2 hk h.yIn h.yIn, slR_kept hL hk h.yIn h.yIn⟩, h.yIn⟩, hk⟩
theorem le_not (x k : Str) : (Op.bytesLess k x || k == x) = !bytesBefore x k := by
  rw [tb_less]
  by_cases e : x = k
  · subst e; rw [tb_irrefl]; simp
  · rcases tb_total x k e with h | h
    · rw [h, tb_asymm h, beq_eq_false_iff_ne.2 fun h => e h.symm]; rfl
    · rw [h, tb_asymm h]; rfl
set_option maxRecDepth 100000 in
set_option maxHeartbeats 4000000 in
theorem refSet_at {w : World} {S : Nat → Prop} {y : Nat} {d : DefV} {D : Ents} (h : RefSt w S y d D) (key : Str) (v : Int) (hks : Short key) (hu : UpI D) (hD : D.length < 1000000) (hSlt : ∀ k, S k → k < w.heap.size) :
    Calls Tryz.prog 29 #[.pointer (some ⟨y, 0, none⟩), .string (str key), .int .i64 v] w fun e w' => e = .returned (.tuple #[]) ∧ RefSt w' S y d (setF d key v D) ∧ Kept2 y y w w' := by
  obtain ⟨A, c, B, b, c0, -, -, c3, -, hL, hfz⟩ := h.cells
  have hnc := hL.2.1
  have hcm := hL.2.2.1
  have HL := hid hL
  have HS := hid h
  have hst := str_toList
  have Hks := hid hks
  have C0 := hid c0; have C3 := hid c3
  obtain ⟨kp, hkp⟩ : ∃ kp, kp = (v != 0 || decide (d.kind = 3)) := ⟨_, rfl⟩
  have Hset := hid (set_end d key v hu hkp)
  have Hlen := hid (len_stR key v kp (D := D))
  have hkc := hid hkp
  clear h hL hks hu c0 c3 hfz hkp
  generalize hl : D.length = n at *
  have hn := hid hl
  clear hl
  go_enter Tryz.func29, Tryz.ntmps29
  go_wp2_with fail
  go_loopw [6, 7, 8] (fun u pb i wr => ∃ k : Nat, k ≤ n ∧ i = .int .i64 (k : Int) ∧ pb = .bool (stR key v kp (D.take k)).2 ∧ Hid (OwnK REnt 57 (fun _ => False) wr w.heap.size u (stR key v kp (D.take k)).1) ∧ Hid (Ext w wr)) (fun _ _ i _ => n - (intOf i).toNat)
  case atStart => exact ⟨0, by omega, rfl, rfl, hid (OwnK.empty w _ (Nat.le_refl _)), hid (ext_alloc _ _)⟩
  case round =>
    obtain ⟨k, hk, rfl, rfl, HO, HE⟩ := hrel
    have c0 := cell_below HE.out C0.out; have c3 := cell_below HE.out C3.out
    by_cases hlt : k < n
    · have hkx : k < D.length := by have := hn.out; omega
      have hlt' : (k : Int) < (n : Int) := by omega
      have hk00 : ¬ ((k : Int) < 0) := by omega
      have hk0 : (0 : Int) ≤ (k : Int) := by omega
      obtain ⟨b', o, rfl, -, f0, f1, hsx⟩ := field_at HL.out k hkx
      have Hsx := hid hsx
      have Hnx := hid (stR_take key v kp hkx)
      have Hlk := hid (Hlen.out k)
      have f0 := cell_below HE.out f0; have f1 := cell_below HE.out f1
      have Hp := hid (show D[k] = (D[k].1, D[k].2) from rfl)
      generalize hx : D[k].1 = x at *
      generalize hz : D[k].2 = z at *
      rw [Hp.out] at Hnx
      have Hx := hid hx; have Hz := hid hz
      clear hx hz hsx Hp
      generalize stR key v kp (D.take k) = s at *
      obtain ⟨out, put⟩ := s
      go_upto_region 5 with (fail)
      go_cut [32] (fun cv wx => cv = .bool (!put && !bytesBefore x key) ∧ Hid (wx = wr))
      case first =>
        have hle := le_not x key
        cases put
        · cases hl1 : Op.bytesLess key x <;> cases hl2 : (key == x)
          all_goals
            rw [hl1, hl2] at hle
            have Hle := hid hle
            clear hle
            go_wp2_with fail
            go_meet
            case rel => exact ⟨by rw [← Hle.out]; rfl, hid rfl⟩
        · clear hle
          go_wp2_with fail
          go_meet
          case rel => exact ⟨rfl, hid rfl⟩
      case rest =>
      obtain ⟨rfl, Hwx⟩ := hcut
      obtain rfl := Hwx.out.symm
      clear Hwx
      have Hmid := hid (show midR key v kp (out, put) (x, z) = if (!put && !bytesBefore x key) = true then (if kp = true then out ++ [(key, v)] else out, true) else (out, put) from rfl)
      have Hstep := hid (show stepR key v kp (out, put) (x, z) = if (x == key) = true then midR key v kp (out, put) (x, z) else ((midR key v kp (out, put) (x, z)).1 ++ [(x, z)], (midR key v kp (out, put) (x, z)).2) from rfl)
      have hlo : out.length ≤ 2 * k := Hlk.out
      have hml : (midR key v kp (out, put) (x, z)).1.length ≤ 2 * k + 1 := by
        rw [Hmid.out]; split
        · split
          · simp only [List.length_append, List.length_cons, List.length_nil]; omega
          · show out.length ≤ _; omega
        · show out.length ≤ _; omega
      generalize midR key v kp (out, put) (x, z) = mid at *
      rw [Hstep.out] at Hnx
      clear Hstep Hlk
      generalize (!put && !bytesBefore x key) = cb at *
      dsimp only at HO ⊢
      go_upto_if 32 with (fail)
      go_cut [6, 7] (fun u b wx => b = .bool mid.2 ∧ Hid (OwnK REnt 57 (fun _ => False) wx w.heap.size u mid.1) ∧ Hid (Ext w wx))
      case first =>
        cases cb
        · have hm : mid = (out, put) := Hmid.out
          have Hm := hid hm
          clear hm hml
          go_wp2_with fail
          go_meet
          case rel => exact ⟨by rw [Hm.out], by rw [Hm.out]; exact HO, HE⟩
        · cases hkp : kp
          · have hm : mid = (out, true) := by rw [Hmid.out, hkp]; rfl
            have hz := hkc.out
            rw [hkp] at hz
            have hv0 : v = 0 := Classical.byContradiction fun h => by
              have : (v != 0) = true := by simpa using h
              rw [this] at hz; cases hz
            have h3 : ¬ d.kind = 3 := fun h => by rw [hv0, h] at hz; cases hz
            have h3b : (d.kind == 3) = false := beq_eq_false_iff_ne.2 h3
            subst hv0
            have Hm := hid hm
            clear hm hml hz hkp h3
            go_wp2_with fail
            go_meet
            case rel => exact ⟨by rw [Hm.out], by rw [Hm.out]; exact HO, HE⟩
          · have hm : mid = (out ++ [(key, v)], true) := by rw [Hmid.out, hkp]; rfl
            have Hm := hid hm
            have Hbox := hid (show ∃ cs, Rows REnt ((wr).alloc (.cells #[.string (str key), .int .i64 v] 57)) (fun _ => False) [(key, v)] cs ∧ RV ((wr).alloc (.cells #[.string (str key), .int .i64 v] 57)) (some ⟨(wr).heap.size, 0, none⟩) cs from
              ⟨_, Rows.single (field_mk (f := (key, v)) Hks.out), rv_cells wr [.string (str key), .int .i64 v] _⟩)
            have HAb := hid (HO.out.ext (ext_alloc wr (.cells #[.string (str key), .int .i64 v] 57)) fun _ h => h.elim)
            have HBb := hid (HE.out.alloc HE.out.size (.cells #[.string (str key), .int .i64 v] 57))
            have hszb := HE.out.size
            have hz := hkc.out
            rw [hkp] at hz
            clear hm hml hkp
            by_cases hv0 : v = 0
            · have h3 : d.kind = 3 := Classical.byContradiction fun h => by
                rw [hv0, decide_eq_false h] at hz; cases hz
              subst hv0
              rw [h3] at c0
              clear hz h3
              go_wp2_with (at_builtin; refine wpList_appK (w0 := w) (R := REnt) (xs := out) (base := w.heap.size) entinfo rfl (.tmp 43) (.tmp 47) rfl rfl HAb (fun _ h => h.elim) HBb (by simp; omega) (some ⟨wr.heap.size, 0, none⟩) 1 1 [(key, 0)] rfl rfl Hbox (by omega) (by omega) ?_; intro v2 W2 HA2 HB2 _; clear f0 f1 c0 c3)
              go_meet
              case rel => exact ⟨by rw [Hm.out], by rw [Hm.out]; exact HA2, HB2⟩
            · have hvb : (v != 0) = true := by simpa using hv0
              have hvb2 : (v == 0) = false := by simpa using hv0
              clear hz
              go_wp2_with (at_builtin; refine wpList_appK (w0 := w) (R := REnt) (xs := out) (base := w.heap.size) entinfo rfl (.tmp 43) (.tmp 47) rfl rfl HAb (fun _ h => h.elim) HBb (by simp; omega) (some ⟨wr.heap.size, 0, none⟩) 1 1 [(key, v)] rfl rfl Hbox (by omega) (by omega) ?_; intro v2 W2 HA2 HB2 _; clear f0 f1 c0 c3)
              go_meet
              case rel => exact ⟨by rw [Hm.out], by rw [Hm.out]; exact HA2, HB2⟩
      case rest =>
      obtain ⟨rfl, HO2, HE2⟩ := hcut
      clear f0 f1 c0 c3 HO HE
      have hE2 := HE2.out
      have c0 := cell_below HE2.out C0.out; have c3 := cell_below HE2.out C3.out
      obtain ⟨b'', o'', e'', -, f0, f1, -⟩ := field_at HL.out k hkx
      simp only [Option.some.injEq, Addr.mk.injEq, and_true] at e''
      obtain ⟨rfl, rfl⟩ := e''
      have f0 := cell_below HE2.out f0; have f1 := cell_below HE2.out f1
      rw [Hx.out] at f0
      rw [Hz.out] at f1
      cases hxk : (x == key)
      · rw [hxk] at Hnx
        have Hn2 := hid (show stR key v kp (D.take (k + 1)) = (mid.1 ++ [(x, z)], mid.2) from Hnx.out)
        have Hbox := hid (show ∃ cs, Rows REnt ((wc).alloc (.cells #[.string (str x), .int .i64 z] 57)) (fun _ => False) [(x, z)] cs ∧ RV ((wc).alloc (.cells #[.string (str x), .int .i64 z] 57)) (some ⟨(wc).heap.size, 0, none⟩) cs from
          ⟨_, Rows.single (field_mk (f := (x, z)) Hsx.out), rv_cells wc [.string (str x), .int .i64 z] _⟩)
        have HAb := hid (HO2.out.ext (ext_alloc wc (.cells #[.string (str x), .int .i64 z] 57)) fun _ h => h.elim)
        have HBb := hid (HE2.out.alloc HE2.out.size (.cells #[.string (str x), .int .i64 z] 57))
        have hszb := HE2.out.size
        clear Hnx
        go_wp2_with (at_builtin; refine wpList_appK (w0 := w) (R := REnt) (xs := mid.1) (base := w.heap.size) entinfo rfl (.tmp 59) (.tmp 67) rfl rfl HAb (fun _ h => h.elim) HBb (by simp; omega) (some ⟨wc.heap.size, 0, none⟩) 1 1 [(x, z)] rfl rfl Hbox (by omega) (by omega) ?_; intro v2 W2 HA2 HB2 _; clear f0 f1 c0 c3)
        go_roundw
        case rel => exact ⟨k + 1, by omega, by go_num, by rw [Hn2.out], by rw [Hn2.out]; exact HA2, HB2⟩
        case measure => simp [intOf]; omega
      · rw [hxk] at Hnx
        have Hn2 := hid (show stR key v kp (D.take (k + 1)) = mid from Hnx.out)
        clear Hnx
        go_wp2_with fail
        go_roundw
        case rel => exact ⟨k + 1, by omega, by go_num, by rw [Hn2.out], by rw [Hn2.out]; exact HO2, HE2⟩
        case measure => simp [intOf]; omega
    · obtain rfl : k = n := by omega
      have hlt' : ¬ ((k : Int) < (k : Int)) := by omega
      have hall : D.take k = D := List.take_of_length_le (by have := hn.out; omega)
      rw [hall] at HO ⊢
      have Hfin := hid (show (stR key v kp D).1.length ≤ 2 * k + 1 by have := Hlen.out k; rw [hall] at this; omega)
      clear hall
      generalize stR key v kp D = s at *
      obtain ⟨out, put⟩ := s
      have Hend := hid (show endR key v kp (out, put) = if (!put && kp) = true then out ++ [(key, v)] else out from rfl)
      have Hfl := hid (show out.length ≤ 2 * k + 1 from Hfin.out)
      rw [Hset.out] at Hend
      clear Hfin Hset Hlen
      dsimp only at HO ⊢
      have hsz := HE.out.size
      have HSr := hid (HS.out.ext HE.out)
      cases put
      · cases hkp : kp
        · have hz := hkc.out
          rw [hkp] at hz
          have hv0 : v = 0 := Classical.byContradiction fun h => by
            have : (v != 0) = true := by simpa using h
            rw [this] at hz; cases hz
          have h3 : ¬ d.kind = 3 := fun h => by rw [hv0, h] at hz; cases hz
          have h3b : (d.kind == 3) = false := beq_eq_false_iff_ne.2 h3
          subst hv0
          have He := hid (show setF d key 0 D = out by rw [Hend.out, hkp]; rfl)
          clear hz hkp h3
          obtain ⟨A2, c2, rfl, hL2⟩ := ownK_out HO.out (fun _ h => h.elim) hSlt
          obtain ⟨_, _, _, _, -, -, -, -, -, -, fz⟩ := HSr.out.cells
          have hfin := HSr.out.setL hL2
          have Hfn := hid hfin
          have HEk := hid (Kept2.of_ext (d := y) (m := y) HE.out)
          clear hfin hL2
          generalize (out).length = ln at *
          go_wp2
          go_end0
          exact ⟨rfl, by rw [He.out]; exact Hfn.out.1, HEk.out.trans Hfn.out.2⟩
        · have hz := hkc.out
          rw [hkp] at hz
          have He := hid (show setF d key v D = out ++ [(key, v)] by rw [Hend.out, hkp]; rfl)
          have Hbox := hid (show ∃ cs, Rows REnt ((wr).alloc (.cells #[.string (str key), .int .i64 v] 57)) (fun _ => False) [(key, v)] cs ∧ RV ((wr).alloc (.cells #[.string (str key), .int .i64 v] 57)) (some ⟨(wr).heap.size, 0, none⟩) cs from
            ⟨_, Rows.single (field_mk (f := (key, v)) Hks.out), rv_cells wr [.string (str key), .int .i64 v] _⟩)
          have HAb := hid (HO.out.ext (ext_alloc wr (.cells #[.string (str key), .int .i64 v] 57)) fun _ h => h.elim)
          have HBb := hid (HE.out.alloc HE.out.size (.cells #[.string (str key), .int .i64 v] 57))
          have hszb := HE.out.size
          clear hkp
          have hfl2 := Hfl.out
          by_cases hv0 : v = 0
          · have h3 : d.kind = 3 := Classical.byContradiction fun h => by
              rw [hv0, decide_eq_false h] at hz; cases hz
            subst hv0
            rw [h3] at c0
            clear hz h3
            go_wp2_with (at_builtin; refine wpList_appK (w0 := w) (R := REnt) (xs := out) (base := w.heap.size) entinfo rfl (.tmp 83) (.tmp 87) rfl rfl HAb (fun _ h => h.elim) HBb (by simp; omega) (some ⟨wr.heap.size, 0, none⟩) 1 1 [(key, 0)] rfl rfl Hbox (by omega) (by omega) ?_; intro v2 W2 HA2 HB2 _; have HSr := hid (HS.out.ext HB2.out); clear c0 c3; have c3 := cell_below HB2.out C3.out; have fz := HSr.out.cells; obtain ⟨_, _, _, _, -, -, -, -, -, -, fz⟩ := fz; obtain ⟨A2, c2, hA2, hL2⟩ := ownK_out HA2.out (fun _ h => h.elim) hSlt; subst hA2)
            have Hfn := hid (HSr.out.setL hL2)
            have hln2 : (out ++ [(key, 0)]).length = out.length + 1 := by rw [List.length_append]; rfl
            rw [hln2] at Hfn
            have HEk := hid (Kept2.of_ext (d := y) (m := y) HB2.out)
            go_end0
            exact ⟨rfl, by rw [He.out]; exact Hfn.out.1, HEk.out.trans Hfn.out.2⟩
          · have hvb : (v != 0) = true := by simpa using hv0
            have hvb2 : (v == 0) = false := by simpa using hv0
            clear hz
            go_wp2_with (at_builtin; refine wpList_appK (w0 := w) (R := REnt) (xs := out) (base := w.heap.size) entinfo rfl (.tmp 83) (.tmp 87) rfl rfl HAb (fun _ h => h.elim) HBb (by simp; omega) (some ⟨wr.heap.size, 0, none⟩) 1 1 [(key, v)] rfl rfl Hbox (by omega) (by omega) ?_; intro v2 W2 HA2 HB2 _; have HSr := hid (HS.out.ext HB2.out); clear c0 c3; have c3 := cell_below HB2.out C3.out; have fz := HSr.out.cells; obtain ⟨_, _, _, _, -, -, -, -, -, -, fz⟩ := fz; obtain ⟨A2, c2, hA2, hL2⟩ := ownK_out HA2.out (fun _ h => h.elim) hSlt; subst hA2)
            have Hfn := hid (HSr.out.setL hL2)
            have hln2 : (out ++ [(key, v)]).length = out.length + 1 := by rw [List.length_append]; rfl
            rw [hln2] at Hfn
            have HEk := hid (Kept2.of_ext (d := y) (m := y) HB2.out)
            go_end0
            exact ⟨rfl, by rw [He.out]; exact Hfn.out.1, HEk.out.trans Hfn.out.2⟩
      · have He := hid (show setF d key v D = out by rw [Hend.out]; rfl)
        obtain ⟨A2, c2, rfl, hL2⟩ := ownK_out HO.out (fun _ h => h.elim) hSlt
        obtain ⟨_, _, _, _, -, -, -, -, -, -, fz⟩ := HSr.out.cells
        have hfin := HSr.out.setL hL2
        have Hfn := hid hfin
        have HEk := hid (Kept2.of_ext (d := y) (m := y) HE.out)
        clear hfin hL2
        generalize (out).length = ln at *
        go_wp2
        go_end0
        exact ⟨rfl, by rw [He.out]; exact Hfn.out.1, HEk.out.trans Hfn.out.2⟩
end Go.Proofs.YtpmmapcjohmniaaGreat
