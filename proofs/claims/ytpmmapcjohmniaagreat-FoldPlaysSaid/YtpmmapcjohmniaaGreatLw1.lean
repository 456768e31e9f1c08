/- The laws' helpers: all, number, Same, few, entries. -/
import Derived.Test.YtpmmapcjohmniaaGreatFo7
import Derived.Test.YtpmmapcjohmniaaGreatEvM
namespace Go.Proofs.YtpmmapcjohmniaaGreat
open Go Go.RowKit
set_option linter.unusedSimpArgs false
set_option linter.unusedVariables false

def allC : ClV := ⟨[], []⟩
set_option maxRecDepth 100000 in
theorem all_at (w : World) : Calls Tryz.prog 16 #[] w fun e w' => ∃ A, e = .returned (.agg #[.slice A 1 1]) ∧ SlR RCl w' (fun k => w.heap.size ≤ k ∧ k < w'.heap.size) A 1 1 [allC] ∧ Ext w w' := by
  go_enter Tryz.func16, Tryz.ntmps16
  go_wp2
  have hE1 := ext_alloc w (.cells #[.slice (some ⟨w.heap.size + 1, 0, none⟩) 1 1] 24)
  have hs1 : (w.alloc (.cells #[.slice (some ⟨w.heap.size + 1, 0, none⟩) 1 1] 24)).heap.size = w.heap.size + 1 := by simp
  have c0 : (w.alloc (.cells #[.slice (some ⟨w.heap.size + 1, 0, none⟩) 1 1] 24)).cell? ⟨w.heap.size, 0, none⟩ = some (.slice (some ⟨w.heap.size + 1, 0, none⟩) 1 1) := by rw [cell_of_row _ _ _ _ _ _ (heap_alloc_last w _)]; rfl
  generalize w.alloc (.cells #[.slice (some ⟨w.heap.size + 1, 0, none⟩) 1 1] 24) = w1 at *
  have hE2 := ext_alloc w1 (.cells #[.slice none 0 0, .slice none 0 0] 80)
  have g0 := cell_below hE2 c0
  have hrv := rv_cells w1 [.slice none 0 0, .slice none 0 0] 80
  rw [hs1] at hrv
  have hsz : (w1.alloc (.cells #[.slice none 0 0, .slice none 0 0] 80)).heap.size = w.heap.size + 2 := by simp [hs1]
  refine bodyPost_ret (v := .agg #[.slice (some ⟨w.heap.size + 1, 0, none⟩) 1 1]) ?_ rfl ?_
  · simp [results, Tryz.f16, go_sem, loadVar, g0]
  · refine ⟨_, rfl, ⟨rfl, Nat.le_refl _, by decide, [.slice none 0 0, .slice none 0 0], Rows.single (cl_mk (c := allC) ⟨rfl, Nat.le_refl _, by decide, [], rfl, .inl rfl⟩ ⟨rfl, Nat.le_refl _, by decide, [], rfl, .inl rfl⟩), ?_⟩, Ext.trans' hE1 hE2⟩
    rcases hrv with h | ⟨b, o, e, h⟩
    · cases h
    · simp only [Option.some.injEq, Addr.mk.injEq, and_true] at e
      obtain ⟨rfl, rfl⟩ := e
      exact .inr ⟨_, _, rfl, ⟨by omega, by rw [hsz]; omega⟩, h⟩
def fewF (l : List EvV) : List EvV := (l.take 40).filter fun e => mayEv e == 0
theorem evinfo : SlInfo Tryz.prog 28 45 (.agg #[.string { data := #[] }, .string { data := #[] }, .slice none 0 0, .slice none 0 0]) REv.size 80 := ⟨Tryz.underlying28, by kernel_rfl, rfl, by decide⟩
theorem few_next {l : List EvV} {k : Nat} (hk : k < l.length) (h : k < 40) : (l.take (k + 1)).filter (fun e => mayEv e == 0) = (l.take k).filter (fun e => mayEv e == 0) ++ if mayEv l[k] == 0 then [l[k]] else [] := by
  rw [List.take_succ_eq_append_getElem hk, List.filter_append]
  congr 1
  rw [List.filter_cons]
  split <;> rfl
set_option maxRecDepth 100000 in
set_option maxHeartbeats 2000000 in
theorem few_at {w : World} {K : Nat → Prop} {A : Option Addr} {n c : Nat} {l : List EvV} (h : SlR REv w K A n c l) (hK : ∀ k, K k → k < w.heap.size) :
    Calls Tryz.prog 10 #[.slice A n c] w fun e w' => ∃ v, e = .returned v ∧ OwnK REv 45 K w' w.heap.size v (fewF l) ∧ Ext w w' := by
  have hn := hid h.1
  have hnc := h.2.1
  have hcm := h.2.2.1
  have H := hid h
  have HK := hid hK
  clear h hK
  go_enter Tryz.func10, Tryz.ntmps10
  go_wp2_with fail
  go_loopw [3, 4] (fun u i wr => ∃ k : Nat, k ≤ n ∧ k ≤ 40 ∧ i = .int .i64 (k : Int) ∧ Hid (OwnK REv 45 K wr w.heap.size u ((l.take k).filter fun e => mayEv e == 0)) ∧ Hid (Ext w wr)) (fun _ i _ => n - (intOf i).toNat)
  case atStart => exact ⟨0, by omega, by omega, rfl, hid (OwnK.empty w _ (Nat.le_refl _)), hid (ext_alloc _ _)⟩
  case round =>
    obtain ⟨k, hk, hk40, rfl, HO, HE⟩ := hrel
    by_cases hlt : k < n
    · by_cases h40 : k < 40
      · have hkx : k < l.length := by have := hn.out; omega
        have hlt' : (k : Int) < (n : Int) := by omega
        have hlt40 : (k : Int) < (40 : Int) := by omega
        have hk00 : ¬ ((k : Int) < 0) := by omega
        have hk0 : (0 : Int) ≤ (k : Int) := by omega
        have Hr := hid (show SlR REv wr K A n c l from H.out.ext fun k hk => HE.out.block k (HK.out k hk))
        obtain ⟨b, o, T, a, U, u2, rfl, hkb, f0, f1, f2, f3, s1, s2, ht, hu⟩ := ev_at Hr.out k hkx
        have Hrow := hid (ev_mk (e := l[k]) s1 s2 ht hu)
        have Hin := hid (show EvIn wr T _ a U _ u2 l[k] from ⟨s1, s2, ht.mono fun x hx => Nat.lt_of_lt_of_le (HK.out x hx) HE.out.size, hu.mono fun x hx => Nat.lt_of_lt_of_le (HK.out x hx) HE.out.size⟩)
        have Hnx := hid (few_next hkx h40)
        have F := hid (And.intro f0 (And.intro f1 (And.intro f2 f3)))
        have hlen := List.length_filter_le (fun e => mayEv e == 0) (l.take k)
        rw [List.length_take] at hlen
        clear ht hu f0 f1 f2 f3 s1 s2
        generalize hen : l[k] = e at *
        clear hen
        generalize hn1 : e.tags.length = n1 at *
        generalize hn2 : e.fields.length = n2 at *
        clear hn1 hn2
        obtain ⟨f0, f1, f2, f3⟩ := F.out
        have hcc := refMayEv_at Hin.out
        unfold evVal at hcc
        go_wp2_with fail
        refine hcc.mono ?_
        clear hcc f0 f1 f2 f3
        rintro x w4 ⟨rfl, hE⟩
        have HE4 := hid hE
        have HE1 := hid (Ext.trans' HE.out hE)
        clear hE
        by_cases hm : mayEv e = 0
        · have hmb : (mayEv e == 0) = true := by rw [hm]; rfl
          rw [hm]
          have Hts := hid (show (l.take (k + 1)).filter (fun e => mayEv e == 0) = (l.take k).filter (fun e => mayEv e == 0) ++ [e] by rw [Hnx.out, if_pos hmb])
          have HO4 := hid (HO.out.ext HE4.out fun x hx => Nat.lt_of_lt_of_le (HK.out x hx) HE.out.size)
          obtain ⟨f0, f1, f2, f3⟩ := F.out
          have f0 := cell_below HE4.out f0; have f1 := cell_below HE4.out f1; have f2 := cell_below HE4.out f2; have f3 := cell_below HE4.out f3
          have HEb := hid (ext_alloc w4 (.cells #[.string (str e.st), .string (str e.ty), .slice T n1 a, .slice U n2 u2] 45))
          have Hbox := hid (show ∃ cs, Rows REv (w4.alloc (.cells #[.string (str e.st), .string (str e.ty), .slice T n1 a, .slice U n2 u2] 45)) K [e] cs ∧ RV (w4.alloc (.cells #[.string (str e.st), .string (str e.ty), .slice T n1 a, .slice U n2 u2] 45)) (some ⟨w4.heap.size, 0, none⟩) cs from
            ⟨_, Rows.single (REv.ext Hrow.out fun x hx => (Ext.trans' HE4.out HEb.out).block x (Nat.lt_of_lt_of_le (HK.out x hx) HE.out.size)), rv_cells w4 [.string (str e.st), .string (str e.ty), .slice T n1 a, .slice U n2 u2] _⟩)
          have HAb := hid (HO4.out.ext HEb.out fun x hx => Nat.lt_of_lt_of_le (HK.out x hx) HE1.out.size)
          have HBb := hid (HE1.out.alloc HE1.out.size (.cells #[.string (str e.st), .string (str e.ty), .slice T n1 a, .slice U n2 u2] 45))
          have hsz4 := HE1.out.size
          clear hmb
          generalize ((l.take k).filter fun e => mayEv e == 0) = pre at *
          go_wp2_with (at_builtin; refine wpList_appK (w0 := w) (R := REv) (xs := pre) (base := w.heap.size) evinfo rfl (.tmp 22) (.tmp 27) rfl rfl HAb HK HBb (by simp; omega) (some ⟨w4.heap.size, 0, none⟩) 1 1 [e] rfl rfl Hbox (by omega) (by omega) ?_; intro v2 W2 HA2 HB2 _; clear f0 f1 f2 f3)
          all_goals
            go_roundw
            case rel => exact ⟨k + 1, by omega, by omega, by go_num, by rw [Hts.out]; exact HA2, HB2⟩
            case measure => simp [intOf]; omega
        · have hmb : (mayEv e == 0) = false := beq_eq_false_iff_ne.2 hm
          have Hts := hid (show (l.take (k + 1)).filter (fun e => mayEv e == 0) = (l.take k).filter (fun e => mayEv e == 0) by rw [Hnx.out, hmb]; exact List.append_nil _)
          have HO4 := hid (HO.out.ext HE4.out fun x hx => Nat.lt_of_lt_of_le (HK.out x hx) HE.out.size)
          generalize mayEv e = me at *
          go_wp2_with fail
          go_roundw
          case rel => exact ⟨k + 1, by omega, by omega, by go_num, by rw [Hts.out]; exact HO4, HE1⟩
          case measure => simp [intOf]; omega
      · have hlt' : (k : Int) < (n : Int) := by omega
        have hlt40 : ¬ ((k : Int) < (40 : Int)) := by omega
        have hf := hid (show (l.take k).filter (fun e => mayEv e == 0) = fewF l by unfold fewF; rw [show k = 40 by omega])
        go_wp2
        go_ret
        exact ⟨_, rfl, by have := HO.out; rw [hf.out] at this; exact this, HE.out⟩
    · obtain rfl : k = n := by omega
      have hlt' : ¬ ((k : Int) < (k : Int)) := by omega
      have hf := hid (show (l.take k).filter (fun e => mayEv e == 0) = fewF l by unfold fewF; rw [List.take_of_length_le (by have := hn.out; omega), List.take_of_length_le (by have := hn.out; omega)])
      go_wp2
      go_ret
      exact ⟨_, rfl, by have := HO.out; rw [hf.out] at this; exact this, HE.out⟩
end Go.Proofs.YtpmmapcjohmniaaGreat
