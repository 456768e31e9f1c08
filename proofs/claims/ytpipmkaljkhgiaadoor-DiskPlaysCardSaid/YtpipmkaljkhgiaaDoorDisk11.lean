/- The walk of disk.Truncate, at the raw level. -/
import Derived.Test.YtpipmkaljkhgiaaDoorStore
namespace Go.Proofs.YtpipmkaljkhgiaaDoor
open Go Go.RowKit
set_option linter.unusedSimpArgs false
set_option linter.unusedVariables false

def lenOf (v : Value) : Nat := lenV v
def truncV (t : Int) : Value → Value
  | .agg cs => match cs.toList with
    | .slice A _ _ :: .int .i64 sf :: _ => .agg #[.slice A t.toNat t.toNat, .int .i64 (min sf t)]
    | _ => .agg cs
  | v => v
def truncE (l : Int) (G : Raw) (nm : List UInt8) (t : Int) : Int := if l = 0 then 14 else match atL G nm with
  | none => 11
  | some v => if t < 0 ∨ (lenOf v : Int) < t then 1 else 0
def truncG (l : Int) (G : Raw) (nm : List UInt8) (t : Int) : Raw := if l = 0 then G else match atL G nm with
  | none => G
  | some v => if t < 0 ∨ (lenOf v : Int) < t then G else putL nm (truncV t v) G
set_option maxRecDepth 100000 in
set_option maxHeartbeats 2000000 in
theorem trunc_raw {w : World} {d m : Nat} {q l : Int} {G : Raw} (h : DiskS w d m q l) (hG : MapAt w m G) (hne : d ≠ m) (hl : -9223372036854775808 ≤ l ∧ l ≤ 9223372036854775807) (nm : List UInt8) (hn : nm.length ≤ 9223372036854775807) (hG1 : G.length < 1000000) (t : Int) (hcap : ∀ A n c sf, atL G nm = some (.agg #[.slice A n c, .int .i64 sf]) → n ≤ c) :
    Calls Tryd.prog 14 #[.pointer (some ⟨d, 0, none⟩), .string (str nm), .int .i64 t] w fun e w' => e = .returned (.int .i64 (truncE l G nm t)) ∧ DiskS w' d m q (burnL l) ∧ MapAt w' m (truncG l G nm t) ∧ Kept2 d m w w' := by
  have H := hid h
  have HG := hid hG
  have hsh : ∀ v, atL G nm = some v → ∃ A n c sf, v = .agg #[.slice A n c, .int .i64 sf] := fun v hv => by
    have := hG.shape nm hn
    rw [hv] at this
    exact fileShape_inv this
  have hzf := zero_file
  unfold zfile at hzf
  clear h hG
  go_enter Tryd.func14, Tryd.ntmps14
  go_wp2_with fail
  have hcc := known_raw H.out HG.out hne hl nm hn
  refine hcc.mono ?_; clear hcc
  rintro e w1 ⟨rfl, h1, hg1, k1⟩
  have H1 := hid h1; have HG1 := hid hg1; have K1 := hid k1
  clear h1 hg1 k1
  have hE1 : ∀ o, Hid (DiskS (w1.alloc o) d m q (burnL l) ∧ MapAt (w1.alloc o) m G ∧ Kept2 d m w (w1.alloc o)) := fun o => by
    have hE : Ext w1 (w1.alloc o) := (Below.refl _ _).alloc (Nat.le_refl _) o
    exact ⟨H1.out.ext hE, HG1.out.ext hE, K1.out.trans (Kept2.of_ext hE)⟩
  by_cases h0 : l = 0
  · have e1 := hid (show knownV l G nm = .agg #[.slice none 0 0, .int .i64 0] by unfold knownV; rw [if_pos h0]; rfl)
    have e2 := hid (show knownE l G nm = 14 by unfold knownE; rw [if_pos h0])
    have e4 := hid (show truncE l G nm t = 14 by unfold truncE; rw [if_pos h0])
    have e3 := hid (show truncG l G nm t = G by unfold truncG; rw [if_pos h0])
    rw [e1.out, e2.out]
    have HE1 := hE1 (.cells #[.slice none 0 0, .int .i64 0] 60)
    clear hE1
    go_wp2
    go_ret
    exact ⟨by rw [e4.out]; rfl, HE1.out.1, by rw [e3.out]; exact HE1.out.2.1, HE1.out.2.2⟩
  cases hat : atL G nm with
  | none =>
    have e1 := hid (show knownV l G nm = .agg #[.slice none 0 0, .int .i64 0] by unfold knownV; rw [if_neg h0, hat]; rfl)
    have e2 := hid (show knownE l G nm = 11 by unfold knownE; rw [if_neg h0, hat]; rfl)
    have e4 := hid (show truncE l G nm t = 11 by unfold truncE; rw [if_neg h0, hat])
    have e3 := hid (show truncG l G nm t = G by unfold truncG; rw [if_neg h0, hat])
    rw [e1.out, e2.out]
    have HE1 := hE1 (.cells #[.slice none 0 0, .int .i64 0] 60)
    clear hE1 hat
    go_wp2
    go_ret
    exact ⟨by rw [e4.out]; rfl, HE1.out.1, by rw [e3.out]; exact HE1.out.2.1, HE1.out.2.2⟩
  | some v =>
  obtain ⟨A, n, c, sf, rfl⟩ := hsh v hat
  have hnc := hcap A n c sf hat
  have e1 := hid (show knownV l G nm = .agg #[.slice A n c, .int .i64 sf] by unfold knownV; rw [if_neg h0, hat]; rfl)
  have e0 := hid (show knownE l G nm = 0 by unfold knownE; rw [if_neg h0, hat]; rfl)
  rw [e1.out, e0.out]
  have HE1 := hE1 (.cells #[.slice A n c, .int .i64 sf] 60)
  have hf := show (w1.alloc (.cells #[.slice A n c, .int .i64 sf] 60)).cell? ⟨w1.heap.size, 0, none⟩ = some (.slice A n c) by rw [cell_of_row _ _ _ _ _ _ (heap_alloc_last w1 _)]; rfl
  have hf1 := show (w1.alloc (.cells #[.slice A n c, .int .i64 sf] 60)).cell? ⟨w1.heap.size, 1, none⟩ = some (.int .i64 sf) by rw [cell_of_row _ _ _ _ _ _ (heap_alloc_last w1 _)]; rfl
  have Hf := hid hf; have Hf1 := hid hf1
  clear hf hf1 hE1 hsh hcap
  by_cases hb : t < 0 ∨ (n : Int) < t
  · have e2 := hid (show truncE l G nm t = 1 by unfold truncE; rw [if_neg h0, hat]; exact if_pos hb)
    have e3 := hid (show truncG l G nm t = G by unfold truncG; rw [if_neg h0, hat]; exact if_pos hb)
    clear hat
    by_cases ht : t < 0
    all_goals
      go_wp2
      go_ret
      exact ⟨by rw [e2.out]; rfl, HE1.out.1, by rw [e3.out]; exact HE1.out.2.1, HE1.out.2.2⟩
  have e2 := hid (show truncE l G nm t = 0 by unfold truncE; rw [if_neg h0, hat]; exact if_neg hb)
  have e3' := hid (show truncG l G nm t = putL nm (.agg #[.slice A t.toNat t.toNat, .int .i64 (min sf t)]) G by unfold truncG; rw [if_neg h0, hat]; exact if_neg hb)
  clear hat
  obtain ⟨k, rfl⟩ := Int.eq_ofNat_of_zero_le (show 0 ≤ t by omega)
  rw [Int.toNat_natCast] at e3'
  have hk1 : ¬ ((k : Int) < 0) := by omega
  have hk2 : ¬ ((n : Int) < (k : Int)) := by omega
  go_wp2_with fail
  refine wp_drawn_last 15 [isV (.pointer (some ⟨d, 0, none⟩)), isV (.pointer (some ⟨d, 0, none⟩)), isV (.pointer (some ⟨d, 2, none⟩)), isV (.map (some m)), isV (.string (str nm)), isV (.pointer (some ⟨w1.heap.size, 0, none⟩)), isV (.slice A n c), isV (.int .i64 (k : Int)), isV (.int .i64 (k : Int)), isV (.slice A k k), isV (.pointer (some ⟨w1.heap.size, 1, none⟩)), isV (.int .i64 sf), isV (.int .i64 (k : Int)), isV (.int .i64 (min sf (k : Int))), isV (.agg #[.slice A k k, .int .i64 (min sf (k : Int))])] (by decide) (by kernel_rfl) ?r6hok ?r6hcov ?r6steps ?r6fin
  case r6hok => kernel_rfl
  case r6hcov => kernel_rfl
  case r6steps =>
    refine ⟨?r6s0, ?r6s1, ?r6s2, ?r6s3, ?r6s4, ?r6s5, ?r6s6, ?r6s7, ?r6s8, ?r6s9, ?r6s10, ?r6s11, ?r6s12, ?r6s13, ?r6s14, trivial⟩
    case r6s3 =>
      intro v W hE hd; simp only [Region.wanted, ↓reduceIte]; (try simp [deps, waitsOn, Region.binds, knowing, isV, ownsV, anyV] at hd); simp only [putAll, List.take_succ_cons, List.take_zero, List.drop_succ_cons, List.drop_zero, Act.put, List.setIfInBounds_toArray, List.set_cons_zero, List.set_cons_succ, Nat.zero_add, Nat.reduceAdd]
      have e1 := cell_below hE (HE1.out.1).files
      go_simp
      exact ⟨Below.refl _ _, rfl⟩
    case r6s6 =>
      intro v W hE hd; simp only [Region.wanted, ↓reduceIte]; (try simp [deps, waitsOn, Region.binds, knowing, isV, ownsV, anyV] at hd); simp only [putAll, List.take_succ_cons, List.take_zero, List.drop_succ_cons, List.drop_zero, Act.put, List.setIfInBounds_toArray, List.set_cons_zero, List.set_cons_succ, Nat.zero_add, Nat.reduceAdd]
      have e1 := cell_below hE Hf.out
      go_simp
      exact ⟨Below.refl _ _, rfl⟩
    case r6s9 =>
      intro v W hE hd; simp only [Region.wanted, ↓reduceIte]; (try simp [deps, waitsOn, Region.binds, knowing, isV, ownsV, anyV] at hd); simp only [putAll, List.take_succ_cons, List.take_zero, List.drop_succ_cons, List.drop_zero, Act.put, List.setIfInBounds_toArray, List.set_cons_zero, List.set_cons_succ, Nat.zero_add, Nat.reduceAdd]
      have e1 : (k : Int) ≤ (c : Int) := by omega
      go_simp
      exact ⟨Below.refl _ _, rfl⟩
    case r6s11 =>
      intro v W hE hd; simp only [Region.wanted, ↓reduceIte]; (try simp [deps, waitsOn, Region.binds, knowing, isV, ownsV, anyV] at hd); simp only [putAll, List.take_succ_cons, List.take_zero, List.drop_succ_cons, List.drop_zero, Act.put, List.setIfInBounds_toArray, List.set_cons_zero, List.set_cons_succ, Nat.zero_add, Nat.reduceAdd]
      have e1 := cell_below hE Hf1.out
      go_simp
      exact ⟨Below.refl _ _, rfl⟩
    case r6s13 =>
      intro v W hE hd; simp only [Region.wanted, ↓reduceIte]; (try simp [deps, waitsOn, Region.binds, knowing, isV, ownsV, anyV] at hd); simp only [putAll, List.take_succ_cons, List.take_zero, List.drop_succ_cons, List.drop_zero, Act.put, List.setIfInBounds_toArray, List.set_cons_zero, List.set_cons_succ, Nat.zero_add, Nat.reduceAdd]
      go_simp
      exact ⟨Below.refl _ _, by simp [knowing, isV]⟩
    all_goals (intro v W hE hd; simp only [Region.wanted, ↓reduceIte]; (try simp [deps, waitsOn, Region.binds, knowing, isV, ownsV, anyV] at hd); simp only [putAll, List.take_succ_cons, List.take_zero, List.drop_succ_cons, List.drop_zero, Act.put, List.setIfInBounds_toArray, List.set_cons_zero, List.set_cons_succ, Nat.zero_add, Nat.reduceAdd]; go_simp; exact ⟨Below.refl _ _, rfl⟩)
  case r6fin =>
    rintro v w2 hE hall
    have e3 : v 3 = .map (some m) := by
      obtain ⟨_, _, _, h, _⟩ := hall
      exact h
    have e4 : v 4 = .string (str nm) := by
      obtain ⟨_, _, _, _, h, _⟩ := hall
      exact h
    have e14 : v 14 = .agg #[.slice A k k, .int .i64 (min sf (k : Int))] := by
      obtain ⟨_, _, _, _, _, _, _, _, _, _, _, _, _, _, h, _⟩ := hall
      exact h
    simp only [putAll, List.take_succ_cons, List.take_zero, List.drop_succ_cons, List.drop_zero, Act.put, List.setIfInBounds_toArray, List.set_cons_zero, List.set_cons_succ, Nat.zero_add, Nat.reduceAdd]
    rw [e3, e4, e14]
    have HM2 := hid (HE1.out.2.1.ext hE)
    have HD2 := hid (HE1.out.1.ext hE)
    have HK2 := hid (HE1.out.2.2.trans (Kept2.of_ext hE))
    obtain ⟨w3, hrun, hM3, ht3⟩ := HM2.out.store nm (.agg #[.slice A k k, .int .i64 (min sf (k : Int))]) rfl hn hG1
    have HM3 := hid hM3; have Ht3 := hid ht3.grown
    clear hall e3 e4 e14 hM3 ht3 hE
    go_wp2
    go_ret
    have hk := HK2.out.trans (Kept2.of_grown Ht3.out (.inr rfl))
    exact ⟨by rw [e2.out]; rfl, HD2.out.of_block (Ht3.out.block d HD2.out.lt (fun e => hne (by simpa using e))), by rw [e3'.out]; exact HM3.out, hk⟩
end Go.Proofs.YtpipmkaljkhgiaaDoor
