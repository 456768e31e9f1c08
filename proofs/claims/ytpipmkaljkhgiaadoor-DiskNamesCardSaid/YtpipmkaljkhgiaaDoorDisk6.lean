/- The walk of disk.Used. -/
import Derived.Test.YtpipmkaljkhgiaaDoorDisk5
import Derived.Maps.RangeWalk
namespace Go.Proofs.YtpipmkaljkhgiaaDoor
open Go Go.RowKit
set_option linter.unusedSimpArgs false
set_option linter.unusedVariables false

abbrev FileQ := Option Addr × Nat × Nat × Int
def mkFile (f : FileQ) : Value := .agg #[.slice f.1 f.2.1 f.2.2.1, .int .i64 f.2.2.2]
theorem invFile (v : Value) (y : DataW Value × List MemPlace) (h : rawE v = some y) : ∃ c, v = mkFile c := by
  obtain ⟨A, n, c, sf, rfl⟩ := fileShape_inv (rawE_inv h).1
  exact ⟨(A, n, c, sf), rfl⟩
theorem invName (key : Value) (kl : Lit) (h : keyOf Tryd.prog 9 key = some kl) : ∃ nm : List UInt8, key = .string (str nm) := by
  obtain ⟨s, rfl, -, -⟩ := WideMaps.string_of_keyOf Tryd.underlying9 h
  exact ⟨s.data.toList, rfl⟩
theorem name_lit (nm : List UInt8) (kl : Lit) (h : keyOf Tryd.prog 9 (.string (str nm)) = some kl) : kl = .string nm := by
  obtain ⟨s, e, rfl, -⟩ := WideMaps.string_of_keyOf Tryd.underlying9 h
  simp only [Value.string.injEq] at e
  rw [← e]; rfl
theorem sumL_le (left : Lit → Bool) : ∀ G : Raw, sumL left G ≤ (G.map fun p => lenV p.2).sum
  | [] => Nat.le_refl _
  | p :: G => by
    have ih := sumL_le left G
    have h1 : wgt (left (.string p.1)) p.2 ≤ lenV p.2 := by cases left (.string p.1) <;> simp [wgt]
    unfold sumL at ih ⊢
    rw [List.map_cons, List.sum_cons, List.map_cons, List.sum_cons]
    omega
def total (G : Raw) : Nat := (G.map fun p => lenV p.2).sum

set_option maxRecDepth 100000 in
set_option maxHeartbeats 2000000 in
theorem used_raw {w : World} {d m : Nat} {q l : Int} {G : Raw} (h : DiskS w d m q l) (hG : MapAt w m G) (hsum : total G ≤ 1000000000000) :
    Calls Tryd.prog 18 #[.pointer (some ⟨d, 0, none⟩)] w fun e w' => e = .returned (.int .i64 (total G : Int)) ∧ Ext w w' := by
  have H := hid h
  have HG := hid hG
  have c2 := h.files
  have hm := hG.lt
  have hd := h.lt
  have hzf := zero_file
  unfold zfile at hzf
  have Hnd := hid hG.nodup
  clear h hG
  go_enter Tryd.func18, Tryd.ntmps18
  go_wp2_with (at_range; refine wpList_range_own w rfl (.tmp 9) 56 rfl 9 60 keyedS Tryd.underlying56 rawE m G.length (.map (rawL G)) rfl HG.out ?_; intro w1 hr1 hg1 hs1; go_frame)
  have hE1 : Ext w w1 := ⟨hg1.os, hg1.tape, hg1.output, hg1.size, fun k hk => hg1.block k hk (by simp)⟩
  go_loopw [3] (fun n wr => ∃ (left : Lit → Bool) (cnt : Nat), n = .int .i64 (sumL left G : Int) ∧ wr.ranges Tryd.prog 9 rawE m w.heap.size G.length (.map (rawL G)) left cnt ∧ Hid (Ext w wr)) (fun _ wr => wr.rangeLeft m w.heap.size)
  case atStart =>
    exact ⟨_, _, by rw [sumL_start]; rfl, hr1, hE1⟩
  case round =>
    obtain ⟨left, cnt, rfl, hrg, HE⟩ := hrel
    obtain ⟨T, hT⟩ : ∃ T, T = sumL left G := ⟨_, rfl⟩
    rw [← hT]
    have HT := hid hT; clear hT
    go_wp2_with (at_next; refine wpList_next_ranges _ rfl (.tmp 10) rfl 9 keyedS rawE (fun nm : List UInt8 => .string (str nm)) mkFile invName invFile m w.heap.size G.length (.map (rawL G)) left cnt rfl hrg ?_ ?_)
    · intro hc0 hl0
      have hdone := sumL_done left G hl0
      have Hd := hid hdone; clear hdone
      go_wp2
      go_ret
      exact ⟨by rw [HT.out, Hd.out]; rfl, HE.out⟩
    · intro nm A n c sf kl y1 y2 w2 cnt2 hkey hlk hy hat hrg2 hlt hg2 hs2 hen
      have hkl := name_lit nm kl hkey
      subst hkl
      have hy2 := (rawE_inv hy).2
      simp only [Prod.mk.injEq] at hy2
      obtain ⟨rfl, rfl⟩ := hy2
      have hat1 : atL G nm = some (mkFile (A, n, c, sf)) := by
        have a1 := hat (.held zfile)
        have a2 := hat .nil
        rw [rawL_at] at a1
        simp only [DataW.held.injEq] at a1
        cases hq : atL G nm with
        | none =>
          exfalso
          have hf : (G.find? (·.1 == nm)) = none := by unfold atL at hq; simpa using hq
          unfold DataW.atKey at a2
          simp only at a2
          rw [rawL_find, hf] at a2
          cases a2
        | some v => rw [hq] at a1; exact congrArg some a1
      have hstep := sumL_step left nm _ G Hnd.out hat1 hlk
      rw [← HT.out] at hstep
      have hmk : mkFile (A, n, c, sf) = .agg #[.slice A n c, .int .i64 sf] := rfl
      rw [hmk] at hen hstep ⊢
      have hln : lenV (.agg #[.slice A n c, .int .i64 sf]) = n := rfl
      rw [hln] at hstep
      have Hstep := hid hstep
      have hE2 : Ext w w2 := HE.out.grown hg2 HE.out.size (fun k hk => by simp at hk; omega)
      have HE2 := hid hE2
      have hbnd : T + n ≤ 1000000000000 := by
        rw [← hstep]
        exact Nat.le_trans (sumL_le _ G) hsum
      have hwr : IntKind.i64.wrap ((T : Int) + (n : Int)) = (T : Int) + (n : Int) := by rw [IntKind.wrap_i64]; omega
      clear hstep hat hat1 hy hkey hmk hln
      go_wp2_with fail
      go_roundw
      case rel =>
        refine ⟨_, cnt2, ?_, hrg2.alloc _, hid ?_⟩
        · rw [Hstep.out]; rfl
        · exact HE2.out.alloc HE2.out.size _
      case measure =>
        rw [(hrg2.alloc _).left_eq, hrg.left_eq]
        exact hlt
end Go.Proofs.YtpipmkaljkhgiaaDoor
