/- What a state tells. -/
import Derived.Test.YtakebdeldndaaaaGreatFo6
import Derived.Test.YtakebdeldndaaaaGreatFound
import Derived.Test.YtakebdeldndaaaaGreatIter
namespace Go.Proofs.YtakebdeldndaaaaGreat
open Go Go.RowKit
set_option linter.unusedSimpArgs false
set_option linter.unusedVariables false

theorem strKeys_lit (D : Ents) : strKeys (DataW.map (litL D)) = D.map (·.1) := by
  show (D.map fun p => (Lit.string p.1, DataW.lit (H := Unit) (.int .i64 p.2))).map (fun p => strOf p.1) = _
  rw [List.map_map]; rfl
theorem rows_str_eq {w : World} {K : Nat → Prop} : ∀ {l : List (List UInt8)} {cs : List Value}, Rows Rep.str w K l cs → cs = l.map strV
  | [], _, h => h
  | s :: l, _, ⟨c, r, e, hc, hr⟩ => by rw [e, show c = [strV s] from hc, rows_str_eq hr]; rfl
theorem own_str {w : World} {base : Nat} {v : Value} {l : List (List UInt8)} (h : w.ownsRow base 9 1 v l.length (l.map strV)) : OwnK Rep.str 9 (fun _ => False) w base v l := ⟨_, h, rows_strs l⟩
theorem entinfo : SlInfo Tryz.prog 115 118 (.agg #[.string { data := #[] }, .int .i64 0]) REnt.size 24 := ⟨Tryz.underlying115, by kernel_rfl, rfl, by decide⟩
theorem rv_cells (w : World) (xs : List Value) (t : TypeId) : RV (w.alloc (.cells xs.toArray t)) (some ⟨w.heap.size, 0, none⟩) xs :=
  .inr ⟨w.heap.size, 0, rfl, fun j v hv => by rw [Nat.zero_add]; exact cells_new w xs t j v hv⟩
theorem up_find {D : Ents} (h : UpI D) (k : Nat) (hk : k < D.length) : atI D D[k].1 = D[k].2 := by
  unfold atI
  have : D.find? (·.1 == D[k].1) = some D[k] := by
    rw [List.find?_eq_some_iff_getElem]
    refine ⟨by simp, k, hk, rfl, fun j hj => ?_⟩
    have hlt := (List.pairwise_iff_getElem.1 h) j k (by omega) hk hj
    simpa using tb_ne hlt
  rw [this]; rfl
set_option maxRecDepth 100000 in
set_option maxHeartbeats 2000000 in
theorem entries_at {w : World} {S : Nat → Prop} {s m : Nat} {kv : Value} {q : List ClV} {D : Ents} (h : StIs w S s m kv q D) (hD : D.length < 1000000) :
    Calls Tryz.prog 51 #[.pointer (some ⟨s, 0, none⟩)] w fun e w' => ∃ v, e = .returned v ∧ OwnK REnt 118 (fun _ => False) w' w.heap.size v D ∧ Ext w w' := by
  obtain ⟨A, c, -, -, c2, -⟩ := h.cells
  have HSt := hid h
  have Hup := hid h.map.up
  have hD' := hid hD
  have hk := fun w => (callsIn_wide).1 (Tryz.maps_Keys_81 (some m) w)
  have hs := callsIn_wide.1 (Tryz.slices_Sorted_keys_80_81 m D.length (DataW.map (litL D)) (plainElem Tryz.prog 3) w h.map (by show (litL D).length ≤ maxLen; rw [litL_length]; simp only [maxLen]; omega) (by show (litL D).length * 16 ≤ _; rw [litL_length]; omega))
  have Hsh := hid h.map.short
  clear h hD
  go_enter Tryz.func51, Tryz.ntmps51
  go_wp2_with fail
  refine (hk _).mono ?_
  rintro e w1 ⟨rfl, rfl⟩
  clear hk
  go_wp2_with fail
  refine hs.mono ?_
  rintro e w2 ⟨v, ss, rfl, hp, hr, -, hB⟩
  rw [strKeys_lit] at hp
  rw [sort_names hp (by have := Hup.out; unfold UpI at this; rw [List.pairwise_map]; exact this), hp.length_eq] at hr
  have HB := hid (Ext.trans' (ext_alloc w (.cells #[.map (some m)] 132)) hB)
  obtain ⟨A2, c2', csr, rfl, hnc, hcm, hrows, hrv⟩ := (own_str hr).read
  have hkeys := rows_str_eq hrows
  subst hkeys
  have HR := hid (show SlR Rep.txt w2 (fun _ => True) A2 (D.map (·.1)).length c2' (D.map (·.1)) from ⟨rfl, hnc, hcm, _, rows_txt (fun x hx => by
    obtain ⟨p, hp, rfl⟩ := List.mem_map.1 hx
    exact Hsh.out p hp), by
    rcases hrv with h | ⟨b, o, e, h⟩
    · exact .inl h
    · exact .inr ⟨b, o, e, trivial, h⟩⟩)
  have hln := hid (show (D.map (·.1)).length = D.length from List.length_map ..)
  generalize hnn : (D.map (·.1)).length = n at *
  clear hs hp hr hB hrows hrv c2 hnn
  have Hcap := hid hcm
  obtain ⟨n0, hn0⟩ : ∃ n0, n0 = w2.heap.size := ⟨_, rfl⟩
  have Hn0 := hid hn0
  go_wp2_with fail
  go_loopw [3, 13] (fun u i wr => ∃ k : Nat, k ≤ n ∧ i = .int .i64 (k : Int) ∧ Hid (OwnK REnt 118 (fun _ => False) wr w2.heap.size u (D.take k)) ∧ Hid (Ext w2 wr)) (fun _ i _ => n - (intOf i).toNat)
  case atStart => exact ⟨0, by omega, rfl, hid (OwnK.nil w2 _), hid (Below.refl _ _)⟩
  case round =>
    obtain ⟨k, hk, rfl, HO, HE⟩ := hrel
    by_cases hlt : k < n
    · have hkx : k < D.length := by have := hln.out; omega
      have hlt' : (k : Int) < (n : Int) := by omega
      have hk00 : ¬ ((k : Int) < 0) := by omega
      have hk0 : (0 : Int) ≤ (k : Int) := by omega
      obtain ⟨b, o, rfl, -, f0, hsk⟩ := txt_at HR.out k (by rw [List.length_map]; exact hkx)
      rw [List.getElem_map] at f0 hsk
      have F0 := hid f0
      clear f0
      have HSr := hid (HSt.out.ext (HB.out.trans' HE.out))
      obtain ⟨-, -, -, -, c2, -⟩ := HSr.out.cells
      have hl := (HSr.out.map.look D[k].1 hsk).1
      rw [up_find Hup.out k hkx] at hl
      have Hts := hid (show D.take (k + 1) = D.take k ++ [(D[k].1, D[k].2)] from List.take_succ_eq_append_getElem hkx)
      have hlen : (D.take k).length ≤ 1000000 := by rw [List.length_take]; have := hD'.out; omega
      have f0 := cell_below HE.out F0.out
      have Hsk := hid hsk
      generalize D[k].1 = ky at *
      generalize D[k].2 = vl at *
      have Hbox := hid (show ∃ cs, Rows REnt (wr.alloc (.cells #[.string (str ky), .int .i64 vl] 118)) (fun _ => False) [(ky, vl)] cs ∧ RV (wr.alloc (.cells #[.string (str ky), .int .i64 vl] 118)) (some ⟨wr.heap.size, 0, none⟩) cs from
        ⟨_, Rows.single (field_mk Hsk.out), rv_cells wr [.string (str ky), .int .i64 vl] _⟩)
      have HAb := hid (HO.out.ext (ext_alloc wr (.cells #[.string (str ky), .int .i64 vl] 118)) fun _ h => h.elim)
      have HBb := hid (HE.out.alloc HE.out.size (.cells #[.string (str ky), .int .i64 vl] 118))
      have hsz4 := HE.out.size
      clear hsk
      go_wp2_with (at_builtin; refine wpList_appK (w0 := w2) (R := REnt) (xs := D.take k) (base := w2.heap.size) entinfo rfl (.tmp 17) (.tmp 26) rfl rfl HAb (fun _ h => h.elim) HBb (by simp; omega) (some ⟨wr.heap.size, 0, none⟩) 1 1 [(ky, vl)] rfl rfl Hbox (by omega) (by omega) ?_; intro v2 W2 HA2 HB2 _; clear f0 c2 hl)
      all_goals
        go_roundw
        case rel => exact ⟨k + 1, by omega, by go_num, by rw [Hts.out]; exact HA2, HB2⟩
        case measure => simp [intOf]; omega
    · obtain rfl : k = n := by omega
      have hlt' : ¬ ((k : Int) < (k : Int)) := by omega
      have hall := hid (show D.take k = D from List.take_of_length_le (by have := hln.out; omega))
      go_wp2
      go_ret
      exact ⟨_, rfl, by have := HO.out; rw [hall.out] at this; exact this.base' HB.out.size, HB.out.trans' HE.out⟩
end Go.Proofs.YtakebdeldndaaaaGreat
