/- The law's head: the document's example. -/
import Derived.Test.YtffidnimoodniaaGreatPja
import Derived.Test.YtffidnimoodniaaGreatSame
namespace Go.Proofs.YtffidnimoodniaaGreat
open Go Go.RowKit
set_option linter.unusedSimpArgs false
set_option linter.unusedVariables false

theorem def_mk {w : World} {K : Nat → Prop} {d : DefV} {A : Option Addr} {n c : Nat} (h1 : Short d.field) (hq : SlR RCl w K A n c d.q) : RDef.rel w K d [.int .i64 d.kind, .string (str d.field), .slice A n c] :=
  ⟨[.int .i64 d.kind], _, rfl, rfl, [strV d.field], _, rfl, ⟨rfl, h1⟩, slice_mk hq⟩
def d0 : DefV := ⟨1, [], [allC]⟩
def e0 : EvV := ⟨[], [], [], []⟩
theorem fold_e0 : foldE d0 [] [e0, e0] = [([], 2)] := by decide
theorem small_e0 : SmallE e0 := ⟨by decide, by simp [e0], by simp [e0], by simp [e0]⟩
theorem rec0_at (w : World) {K : Nat → Prop} (hK : K w.heap.size) : SlR RRec (w.alloc (.cells #[.int .i64 0, .int .i64 0, .string { data := #[] }, .string { data := #[] }, .slice none 0 0, .slice none 0 0, .int .i64 0, .int .i64 0, .string { data := #[] }, .string { data := #[] }, .slice none 0 0, .slice none 0 0] 62)) K (some ⟨w.heap.size, 0, none⟩) 2 2 [(0, 0, e0), (0, 0, e0)] := by
  have hr : RRec.rel (w.alloc (.cells #[.int .i64 0, .int .i64 0, .string { data := #[] }, .string { data := #[] }, .slice none 0 0, .slice none 0 0, .int .i64 0, .int .i64 0, .string { data := #[] }, .string { data := #[] }, .slice none 0 0, .slice none 0 0] 62)) K (0, 0, e0) [.int .i64 0, .int .i64 0, .string (str e0.st), .string (str e0.ty), .slice none 0 0, .slice none 0 0] :=
    rec_mk (by unfold Short; decide) (by unfold Short; decide) (slR_nil _ _) (slR_nil _ _)
  refine ⟨rfl, Nat.le_refl _, by decide, _, (Rows.single hr).append (Rows.single hr), ?_⟩
  rcases rv_cells w [.int .i64 0, .int .i64 0, .string { data := #[] }, .string { data := #[] }, .slice none 0 0, .slice none 0 0, .int .i64 0, .int .i64 0, .string { data := #[] }, .string { data := #[] }, .slice none 0 0, .slice none 0 0] 62 with h | ⟨b, o, e, h⟩
  · cases h
  · simp only [Option.some.injEq, Addr.mk.injEq, and_true] at e
    obtain ⟨rfl, rfl⟩ := e
    exact .inr ⟨_, _, rfl, hK, h⟩
set_option maxRecDepth 100000 in
set_option maxHeartbeats 4000000 in
theorem shown16_at (w : World) : Calls Tryz.prog 8 #[] w fun e w' => e = .returned (.bool true) ∧ Ext w w' := by
  have hs1 : (w.alloc (.cells #[.slice none 0 0, .slice none 0 0] 52)).heap.size = w.heap.size + 1 := by simp
  have hE1 := ext_alloc w (.cells #[.slice none 0 0, .slice none 0 0] 52)
  have hcl : SlR RCl (w.alloc (.cells #[.slice none 0 0, .slice none 0 0] 52)) (· < w.heap.size + 1) (some ⟨w.heap.size, 0, none⟩) 1 1 [allC] :=
    slR_box (R := RCl) (cs := [.slice none 0 0, .slice none 0 0]) (x := allC) (cl_mk (c := allC) (slR_nil _ _) (slR_nil _ _)) (Nat.lt_succ_self _)
  have hE2 := ext_alloc (w.alloc (.cells #[.slice none 0 0, .slice none 0 0] 52)) (.cells #[.int .i64 1, .string { data := #[] }, .slice (some ⟨w.heap.size, 0, none⟩) 1 1] 57)
  have hdf : SlR RDef ((w.alloc (.cells #[.slice none 0 0, .slice none 0 0] 52)).alloc (.cells #[.int .i64 1, .string { data := #[] }, .slice (some ⟨w.heap.size, 0, none⟩) 1 1] 57)) (· < ((w.alloc (.cells #[.slice none 0 0, .slice none 0 0] 52)).alloc (.cells #[.int .i64 1, .string { data := #[] }, .slice (some ⟨w.heap.size, 0, none⟩) 1 1] 57)).heap.size) (some ⟨(w.alloc (.cells #[.slice none 0 0, .slice none 0 0] 52)).heap.size, 0, none⟩) 1 1 [d0] :=
    slR_box (R := RDef) (cs := [.int .i64 1, .string { data := #[] }, .slice (some ⟨w.heap.size, 0, none⟩) 1 1]) (x := d0) (def_mk (d := d0) (Nat.zero_le _) ((hcl.ext fun k hk => hE2.block k (by rw [hs1]; exact hk)).mono fun k hk => by simp; omega)) (by simp)
  have HE2 := hid (Ext.trans' hE1 hE2)
  have hcc := projNew_at hdf
  rw [hs1] at hcc
  clear hE1 hE2 hcl hdf
  go_enter Tryz.func8, Tryz.ntmps8
  go_wp2_with fail
  generalize (w.alloc (.cells #[.slice none 0 0, .slice none 0 0] 52)).alloc (.cells #[.int .i64 1, .string { data := #[] }, .slice (some ⟨w.heap.size, 0, none⟩) 1 1] 57) = w2 at *
  refine hcc.mono ?_
  clear hcc hs1
  rintro e w3 ⟨hE3, hans⟩
  have HE3 := hid (HE2.out.trans' hE3)
  clear hE3
  rcases hans with ⟨h, -⟩ | ⟨-, p, L, S, rfl, hSet, hview, hlo⟩
  · exact absurd (by decide) h
  have HSet := hid hSet; have Hview := hid (show viewP L = [(d0, [])] from hview); have Hlo := hid hlo
  clear hSet hview hlo
  have hL := (view_get (L := [⟨0, 0, d0, []⟩]) (L' := L) Hview.out).1
  have HE4 := hid (ext_alloc w3 (.cells #[.int .i64 0, .int .i64 0, .string { data := #[] }, .string { data := #[] }, .slice none 0 0, .slice none 0 0, .int .i64 0, .int .i64 0, .string { data := #[] }, .string { data := #[] }, .slice none 0 0, .slice none 0 0] 62))
  have hcc := setApply_at (HSet.out.ext HE4.out) (fun k hk => Nat.lt_of_lt_of_le (Hlo.out k hk).2 HE4.out.size) (by rw [hL]; decide) (rec0_at w3 (K := Out S (w3.alloc (.cells #[.int .i64 0, .int .i64 0, .string { data := #[] }, .string { data := #[] }, .slice none 0 0, .slice none 0 0, .int .i64 0, .int .i64 0, .string { data := #[] }, .string { data := #[] }, .slice none 0 0, .slice none 0 0] 62))) ⟨by simp, fun h => by have := (Hlo.out _ h).2; omega⟩)
    (B := 1125899906842624) (fun x hx => by
      have h1 : (x.d, x.D) ∈ viewP L := List.mem_map.2 ⟨x, hx, rfl⟩
      rw [Hview.out] at h1
      simp only [List.mem_singleton, Prod.mk.injEq] at h1
      rw [h1.1, h1.2]
      exact ⟨by decide, fun p hp => by simp at hp, by decide, by decide⟩) (fun e he => by
      have h1 : e = e0 := by simpa [evsOf] using he
      rw [h1]; exact small_e0)
  clear hL
  go_wp2_with fail
  refine hcc.mono ?_
  clear hcc
  rintro e w4 ⟨hK, hans⟩
  rw [Hview.out] at hans
  rcases hans with ⟨-, rfl, L2, S2, hS2, hv2, hlo2, -, -, -⟩ | ⟨h, -⟩
  rotate_left
  · exact absurd h (by decide)
  have hv3 : viewP L2 = [(d0, [([], 2)])] := hv2.trans (by show [(d0, foldE d0 [] [e0, e0])] = _; rw [fold_e0])
  have hL2 := view_get (L := [⟨0, 0, d0, [([], 2)]⟩]) (L' := L2) hv3
  have hpl : w.heap.size ≤ p := Nat.le_trans HE2.out.size (Hlo.out _ HSet.out.pIn).1
  have HE5 := hid (show Ext w w4 from (HE3.out.trans' HE4.out).trans (hK.below hpl hpl (HE3.out.trans' HE4.out).size))
  have HS2 := hid hS2
  have hi2 : 0 < L2.length := by rw [hL2.1]; decide
  have hx2 := hL2.2 0 hi2 (by decide)
  have hD2 : L2[0].D = [([], 2)] := hx2.2
  have hlen2 : L2.length = 1 := hL2.1
  have hcc := setEntries_at hS2 0 hi2 (by rw [hlen2]; decide) (by rw [hD2]; decide)
  rw [hD2] at hcc
  have Hlen2 := hid hlen2
  clear hS2 hv2 hlo2 hv3 hL2 hx2 hD2 hlen2 hK hpl hi2
  go_wp2_with fail
  refine hcc.mono ?_
  clear hcc
  rintro e w5 ⟨hE5, A5, c5, rfl, hR5⟩
  obtain ⟨b5, o5, rfl, -, -, f5, -⟩ := field_at hR5 0 (by decide)
  simp only [Nat.zero_mul, Nat.add_zero] at f5
  have f5' : w5.cell? ⟨b5, o5 + 1, none⟩ = some (.int .i64 2) := f5
  have HS5 := hid (HS2.out.ext hE5)
  have HE6 := hid (HE5.out.trans' hE5)
  have hc5 := hR5.2.1
  have hm5 := hR5.2.2.1
  clear hR5 f5 hE5
  have hone : ([([], 2)] : Ents).length = 1 := rfl
  rw [hone] at hc5 ⊢
  have hmany := setMany_at HS5.out
  rw [Hlen2.out] at hmany
  go_wp2_with fail
  refine hmany.mono ?_
  rintro e w6 ⟨rfl, rfl⟩
  clear hmany
  go_wp2
  go_ret
  exact ⟨rfl, HE6.out⟩
end Go.Proofs.YtffidnimoodniaaGreat
