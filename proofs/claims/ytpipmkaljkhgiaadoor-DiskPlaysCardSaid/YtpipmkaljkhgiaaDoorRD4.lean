/- The reference's disk: Used, List, Read. -/
import Derived.Test.YtpipmkaljkhgiaaDoorRD3
import Derived.Test.YtpipmkaljkhgiaaDoorDiskList
namespace Go.Proofs.YtpipmkaljkhgiaaDoor
open Go Go.RowKit
set_option linter.unusedSimpArgs false
set_option linter.unusedVariables false

theorem RefIs.reads {w : World} {S : Nat → Prop} {y g : Nat} {q l : Int} {F : Files} (h : RefIs w S y g q l F) : ∃ A0 c0, w.cell? ⟨y, 2, none⟩ = some (.slice A0 F.length c0) ∧ F.length ≤ c0 ∧ c0 ≤ 9223372036854775807 ∧
    ∀ k (hk : k < F.length), ∃ gb A1 c1, A0 = some ⟨gb, 0, none⟩ ∧ gb < w.heap.size ∧ w.cell? ⟨gb, k * 3, none⟩ = some (.string (str F[k].1)) ∧ w.cell? ⟨gb, k * 3 + 1, none⟩ = some (.slice A1 F[k].2.b.length c1) ∧ w.cell? ⟨gb, k * 3 + 2, none⟩ = some (.int .i64 (F[k].2.safe : Int)) ∧
      F[k].2.b.length ≤ c1 ∧ c1 ≤ 9223372036854775807 ∧ RK w (Imm w S) A1 (bvs F[k].2.b) := by
  obtain ⟨v, e1, hO, -⟩ := h.row
  obtain ⟨A0, c0, cs, rfl, hc, hcm, -, -⟩ := hO.read
  refine ⟨A0, c0, e1, hc, hcm, fun k hk => ?_⟩
  obtain ⟨gb, c1, e0, -, -, hgb, -, -, hcell⟩ := hO.at_ (by omega)
  simp only [Value.slice.injEq] at e0
  obtain ⟨rfl, -, rfl⟩ := e0
  obtain ⟨d, hd, hcc⟩ := hcell k hk
  obtain ⟨A1, c1, rfl, h1, h2, h3⟩ := rfile_rel hd
  exact ⟨gb, A1, c1, rfl, hgb, hcc 0 _ rfl, hcc 1 _ rfl, hcc 2 _ rfl, h1, h2, h3⟩
theorem usedF_take (F : Files) (k : Nat) (hk : k < F.length) : usedF (F.take (k + 1)) = usedF (F.take k) + F[k].2.b.length := by
  unfold usedF
  rw [List.take_succ_eq_append_getElem hk, List.map_append, List.sum_append]
  simp
theorem usedF_ok {F : Files} (h : OkF F) : usedF F ≤ 65536 * F.length := by
  induction F with
  | nil => simp [usedF]
  | cons p F ih =>
    have h1 := (h p (by simp)).1
    have h2 := ih fun q hq => h q (by simp [hq])
    unfold usedF at h2 ⊢
    rw [List.map_cons, List.sum_cons, List.length_cons, Nat.mul_add]
    omega
set_option maxRecDepth 100000 in
set_option maxHeartbeats 2000000 in
theorem used_ref {w : World} {S : Nat → Prop} {y g : Nat} {q l : Int} {F : Files} (h : RefIs w S y g q l F) :
    Calls Tryd.prog 32 #[.pointer (some ⟨y, 0, none⟩)] w fun e w' => e = .returned (.int .i64 (usedF F : Int)) ∧ w = w' := by
  obtain ⟨A0, c0, c2, hc, hcm, hcell⟩ := h.reads
  have hfew := h.few
  have Hok := hid h.ok
  obtain ⟨N, hN⟩ : ∃ N, N = F.length := ⟨_, rfl⟩
  rw [← hN] at c2 hfew hc
  have HN := hid hN
  have HC := hid hcell
  clear h hN hcell
  go_enter Tryd.func32, Tryd.ntmps32
  go_wp2_with fail
  go_loop [3, 4] (fun n i => ∃ k : Nat, k ≤ N ∧ i = .int .i64 (k : Int) ∧ n = .int .i64 (usedF (F.take k) : Int)) (fun _ i => N - (intOf i).toNat)
  case atStart => exact ⟨0, by omega, rfl, rfl⟩
  case round =>
    obtain ⟨k, hk, rfl, rfl⟩ := hrel
    obtain ⟨T, hT⟩ : ∃ T, T = usedF (F.take k) := ⟨_, rfl⟩
    rw [← hT]
    have hTle : T ≤ 65536 * 200 := by
      have h1 := usedF_ok (F := F.take k) fun p hp => Hok.out p (List.mem_of_mem_take hp)
      have h2 := List.length_take_le k F
      rw [hT]
      have := HN.out
      omega
    have HT := hid hT; clear hT
    by_cases hlt : k < N
    · have hkF : k < F.length := by have := HN.out; omega
      obtain ⟨gb, A1, c1, rfl, -, -, f1, -, -⟩ := HC.out k hkF
      have Hs := hid (usedF_take F k hkF)
      have hb := (Hok.out F[k] (List.getElem_mem _)).1
      generalize F[k].2.b.length = n1 at f1 Hs hb
      have hlt' : (k : Int) < (N : Int) := by omega
      go_wp2
      go_round
      case rel => exact ⟨k + 1, by omega, by go_num, by rw [Hs.out, ← HT.out]; go_num⟩
      case measure => simp [intOf]; omega
    · obtain rfl : k = N := by omega
      have hall := hid (show F.take k = F from List.take_of_length_le (by have := HN.out; omega))
      rw [hall.out] at HT
      go_wp2
      go_ret
      exact ⟨by rw [HT.out]; rfl, rfl⟩
theorem rows_str_eq {w : World} {K : Nat → Prop} : ∀ {l : List (List UInt8)} {cs : List Value}, Rows Rep.str w K l cs → cs = l.map strV
  | [], _, h => h
  | x :: l, _, ⟨c, r, e, hc, hr⟩ => by rw [e, show c = [strV x] from hc, rows_str_eq hr]; rfl
theorem OwnK.strs {K : Nat → Prop} {w : World} {base : Nat} {v : Value} {l : List (List UInt8)} (h : OwnK Rep.str 9 K w base v l) : OwnR Rep.str 9 w base v l := by
  obtain ⟨cs, ho, hr⟩ := h
  rw [rows_str_eq hr] at ho
  exact own_strs ho
theorem strinfo : SlInfo Tryd.prog 50 9 (.string ⟨#[]⟩) Rep.str.size 16 := ⟨Tryd.underlying50, by kernel_rfl, rfl, by decide⟩
set_option maxRecDepth 100000 in
set_option maxHeartbeats 2000000 in
theorem list_ref {w : World} {S : Nat → Prop} {y g : Nat} {q l : Int} {F : Files} (h : RefIs w S y g q l F) :
    Calls Tryd.prog 31 #[.pointer (some ⟨y, 0, none⟩)] w fun e w' => ∃ v, e = .returned v ∧ OwnR Rep.str 9 w' w.heap.size v (F.map (·.1)) ∧ Ext w w' := by
  obtain ⟨A0, c0, c2, hc, hcm, hcell⟩ := h.reads
  have hfew := h.few
  have hylt := h.lt
  obtain ⟨N, hN⟩ : ∃ N, N = F.length := ⟨_, rfl⟩
  rw [← hN] at c2 hfew hc
  have HN := hid hN
  have HC := hid hcell
  have C2 := hid c2
  clear h hN hcell c2
  go_enter Tryd.func31, Tryd.ntmps31
  go_wp2_with fail
  go_loopw [3, 4] (fun v i wr => ∃ k : Nat, k ≤ N ∧ i = .int .i64 (k : Int) ∧ Hid (OwnK Rep.str 9 (fun _ => False) wr w.heap.size v ((F.map (·.1)).take k)) ∧ Hid (Ext w wr)) (fun _ i _ => N - (intOf i).toNat)
  case atStart => exact ⟨0, by omega, rfl, OwnK.empty w _ (Nat.le_refl _), (Below.refl _ _).alloc (Nat.le_refl _) _⟩
  case round =>
    obtain ⟨k, hk, rfl, HO, HE⟩ := hrel
    have c2 := cell_below HE.out C2.out
    by_cases hlt : k < N
    · have hkF : k < F.length := by have := HN.out; omega
      obtain ⟨gb, A1, c1, rfl, -, f0, -⟩ := HC.out k hkF
      have hts := hid (show (F.map (·.1)).take (k + 1) = (F.map (·.1)).take k ++ [F[k].1] by rw [List.take_succ_eq_append_getElem (by simpa using hkF)]; simp)
      generalize F[k].1 = a at f0 hts
      have g0 := cell_below HE.out f0
      clear f0
      have hlt' : (k : Int) < (N : Int) := by omega
      have hwl := HE.out.size
      have hlen : ((F.map (·.1)).take k).length ≤ 200 := by have := List.length_take_le k (F.map (·.1)); omega
      have Hbx := hid (box_row (R := Rep.str) (w := wr) (K := fun _ => False) (x := a) (d := [.string (str a)]) rfl (fun _ h => h.elim) 9)
      have HAb := hid (HO.out.ext ((Below.refl _ _).alloc (Nat.le_refl _) (.cells #[.string (str a)] 9)) fun _ h => h.elim)
      have HBb := hid (HE.out.alloc hwl (.cells #[.string (str a)] 9))
      go_wp2_with (at_builtin; refine wpList_appK (w0 := w) (R := Rep.str) (xs := (F.map (·.1)).take k) (base := w.heap.size) strinfo rfl (.tmp 15) (.tmp 24) rfl rfl HAb (fun _ h => h.elim) HBb (by simp; omega) (some ⟨wr.heap.size, 0, none⟩) 1 1 [a] rfl rfl Hbx (by omega) (by omega) ?_; intro v2 W2 HA2 HB2 _)
      go_roundw
      case rel => exact ⟨k + 1, by omega, by go_num, by rw [hts.out]; exact HA2, HB2⟩
      case measure => simp [intOf]; omega
    · obtain rfl : k = N := by omega
      have hall := hid (show (F.map (·.1)).take k = F.map (·.1) from List.take_of_length_le (by have := HN.out; simp; omega))
      rw [hall.out] at HO
      go_wp2
      go_ret
      exact ⟨_, rfl, HO.out.strs, HE.out⟩
end Go.Proofs.YtpipmkaljkhgiaaDoor
