/- The walk of disk.Remove, at the raw level. -/
import Derived.Test.YtpipmkaljkhgiaaDoorDisk8
namespace Go.Proofs.YtpipmkaljkhgiaaDoor
open Go Go.RowKit
set_option linter.unusedSimpArgs false
set_option linter.unusedVariables false

def dropG (l : Int) (G : Raw) (nm : List UInt8) : Raw := if l = 0 then G else match atL G nm with
  | none => G
  | some _ => delL nm G
set_option maxRecDepth 100000 in
set_option maxHeartbeats 2000000 in
theorem remove_raw {w : World} {d m : Nat} {q l : Int} {G : Raw} (h : DiskS w d m q l) (hG : MapAt w m G) (hne : d ≠ m) (hl : -9223372036854775808 ≤ l ∧ l ≤ 9223372036854775807) (nm : List UInt8) (hn : nm.length ≤ 9223372036854775807) (hG1 : G.length < 1000000) :
    Calls Tryd.prog 19 #[.pointer (some ⟨d, 0, none⟩), .string (str nm)] w fun e w' => e = .returned (.int .i64 (knownE l G nm)) ∧ DiskS w' d m q (burnL l) ∧ MapAt w' m (dropG l G nm) ∧ Kept2 d m w w' := by
  have H := hid h
  have HG := hid hG
  have hsh : ∀ v, atL G nm = some v → ∃ A n c sf, v = .agg #[.slice A n c, .int .i64 sf] := fun v hv => by
    have := hG.shape nm hn
    rw [hv] at this
    exact fileShape_inv this
  have hzf := zero_file
  unfold zfile at hzf
  clear h hG
  go_enter Tryd.func19, Tryd.ntmps19
  go_wp2_with fail
  have hcc := known_raw H.out HG.out hne hl nm hn
  refine hcc.mono ?_; clear hcc
  rintro e w1 ⟨rfl, h1, hg1, k1⟩
  have H1 := hid h1; have HG1 := hid hg1; have K1 := hid k1
  clear h1 hg1 k1
  have hE1 : ∀ o, Hid (DiskS (w1.alloc o) d m q (burnL l) ∧ MapAt (w1.alloc o) m G ∧ Kept2 d m w (w1.alloc o)) := fun o => by
    have hE : Ext w1 (w1.alloc o) := (Below.refl _ _).alloc (Nat.le_refl _) o
    exact ⟨H1.out.ext hE, HG1.out.ext hE, K1.out.trans (Kept2.of_ext hE)⟩
  by_cases h0 : l = 0
  · have e1 := hid (show knownV l G nm = .agg #[.slice none 0 0, .int .i64 0] by unfold knownV; rw [if_pos h0]; rfl)
    have e2 := hid (show knownE l G nm = 14 by unfold knownE; rw [if_pos h0])
    have e3 := hid (show dropG l G nm = G by unfold dropG; rw [if_pos h0])
    rw [e1.out, e2.out]
    have HE1 := hE1 (.cells #[.slice none 0 0, .int .i64 0] 60)
    clear hE1
    go_wp2
    go_ret
    exact ⟨by rw [e2.out]; rfl, HE1.out.1, by rw [e3.out]; exact HE1.out.2.1, HE1.out.2.2⟩
  cases hat : atL G nm with
  | none =>
    have e1 := hid (show knownV l G nm = .agg #[.slice none 0 0, .int .i64 0] by unfold knownV; rw [if_neg h0, hat]; rfl)
    have e2 := hid (show knownE l G nm = 11 by unfold knownE; rw [if_neg h0, hat]; rfl)
    have e3 := hid (show dropG l G nm = G by unfold dropG; rw [if_neg h0, hat])
    rw [e1.out, e2.out]
    have HE1 := hE1 (.cells #[.slice none 0 0, .int .i64 0] 60)
    clear hE1 hat
    go_wp2
    go_ret
    exact ⟨by rw [e2.out]; rfl, HE1.out.1, by rw [e3.out]; exact HE1.out.2.1, HE1.out.2.2⟩
  | some v =>
  obtain ⟨A, n, c, sf, rfl⟩ := hsh v hat
  have e1 := hid (show knownV l G nm = .agg #[.slice A n c, .int .i64 sf] by unfold knownV; rw [if_neg h0, hat]; rfl)
  have e2 := hid (show knownE l G nm = 0 by unfold knownE; rw [if_neg h0, hat]; rfl)
  have e3 := hid (show dropG l G nm = delL nm G by unfold dropG; rw [if_neg h0, hat])
  rw [e1.out, e2.out]
  have HE1 := hE1 (.cells #[.slice A n c, .int .i64 sf] 60)
  clear hE1 hat hsh
  obtain ⟨w3, hrun, hM3, ht3⟩ := HE1.out.2.1.drop nm hn 0
  have ht := ht3.grown
  have HM3 := hid hM3; have Ht := hid ht
  have c2 := HE1.out.1.files
  clear hM3 ht3 ht
  go_wp2
  go_ret
  refine ⟨by rw [e2.out]; rfl, HE1.out.1.of_block (Ht.out.block d HE1.out.1.lt (fun e => hne (by simpa using e))), by rw [e3.out]; exact HM3.out, HE1.out.2.2.trans (Kept2.of_grown Ht.out (.inr rfl))⟩
end Go.Proofs.YtpipmkaljkhgiaaDoor
