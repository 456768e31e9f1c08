/- The walk of the reference's Scan, and of its Same (chapter 9). -/
import Derived.Test.YtjfggfmhchoobaaFrame5
namespace Go.Proofs.Ytjfggfmhchoobaa
open Go Go.RowKit
set_option linter.unusedSimpArgs false
set_option linter.unusedVariables false

set_option maxRecDepth 100000 in
set_option maxHeartbeats 2000000 in
theorem refScan_at (A : Option Addr) (n c : Nat) (bs : List UInt8) (w : World) (hn : n = bs.length) (hm : n ≤ 1000000000) (hc : n ≤ c) (hb : RB w A bs) :
    Calls Try.prog 31 #[.slice A n c] w (RetScan w bs) := by
  have Hn := hid hn; clear hn
  have Hb := hid hb; clear hb
  go_enter Try.func31, Try.ntmps31
  go_wp2_with fail
  go_loopw [4, 5] (fun l i wr => ∃ (done : List (List UInt8)) (k : Nat), k ≤ n ∧ i = .int .i64 k ∧ Hid (Frm.scan bs = done ++ Frm.scan (bs.drop k)) ∧ Hid (k = Frm.total done) ∧ Hid (OwnR (Rep.slice Rep.u8) 22 wr w.heap.size l done) ∧ Hid (Below w.heap.size w wr)) (fun _ i _ => n - (intOf i).toNat)
  case atStart =>
    exact ⟨[], 0, by omega, rfl, rfl, hid (by simp [Frm.total]), OwnR.empty _ _ (Nat.le_refl _), (Below.refl _ _).alloc (Nat.le_refl _) _⟩
  case round =>
    obtain ⟨done, k, hk, rfl, Hsc, Hkt, Hown, HB⟩ := hrel
    rename Value => vl
    have Hbr := hid (Hb.out.below HB.out)
    obtain ⟨A', hr', hq⟩ := slice_from A n c bs wr Hn.out hc Hbr.out k hk
    have Hr' := hid hr'; clear hr'
    go_wp2_with fail
    have hcc := refTake_at A' (n - k) (c - k) (bs.drop k) wr (by rw [List.length_drop, ← Hn.out]) (by omega) (by omega) Hr'.out
    refine hcc.mono ?_; clear hcc
    rintro e w1 ⟨hB1, hres⟩
    have HB1 := hid hB1; clear hB1
    have hst := take_state bs done k Hsc.out Hkt.out (by have := Hn.out; omega)
    cases htk : Frm.takeF (bs.drop k) with
    | none =>
      rw [htk] at hres hst
      simp only [] at hres hst
      subst hres
      have Hst := hid hst; clear hst htk hq
      have HBf := hid (below_then HB.out HB.out.size HB1.out)
      have Hownf := hid (Hown.out.ext HB1.out)
      go_wp2
      go_ret2
      refine ⟨_, by rw [Hst.out.2]; rfl, ?_, HBf.out⟩
      rw [Hst.out.1]; exact Hownf.out
    | some x =>
      rw [htk] at hres hst
      simp only [] at hres hst
      obtain ⟨v1, rfl, hO1⟩ := hres
      have hbx := fresh_box hO1 Hown.out.old 22
      have Hbx := hid hbx; clear hbx
      obtain ⟨A1, c1, rfl, hc1, Hr1⟩ := hO1.readAt
      have HO1 := hid hO1
      have Hst := hid hst
      have hkx : k + (8 + x.length) ≤ n := by have := hst.2.2.1; have := Hn.out; omega
      clear hst htk hq hO1
      have HBf := hid (below_then HB.out HB.out.size HB1.out)
      have Hownf := hid (Hown.out.ext HB1.out)
      have hk8 : 0 < 8 + x.length := by omega
      obtain ⟨p, hp⟩ : ∃ p, p = 8 + x.length := ⟨_, rfl⟩
      rw [← hp] at Hst hkx hk8 ⊢
      clear hp
      have hdl : done.length ≤ 1000000000 := by have := total_len done; have := Hkt.out; omega
      go_wp2_with (at_builtin; refine wpList_appR (w0 := w) (R := Rep.slice Rep.u8) (xs := done) sl_slice rfl (.tmp 20) (.tmp 22) rfl rfl (hid (Hownf.out.ext ((Below.refl _ _).alloc (Nat.le_refl _) _))) (hid (HBf.out.alloc HBf.out.size _)) (by have := HBf.out.size; simp; omega) (some ⟨w1.heap.size, 0, none⟩) 1 1 [x] rfl rfl Hbx (by omega) (by omega) ?_; intro v2 w2 Hown2 HB2 _)
      go_roundw
      case rel =>
        refine ⟨done ++ [x], k + p, by omega, rfl, ?_, ?_, Hown2, HB2⟩
        · exact Hst.out.1
        · exact Hst.out.2.1
      case measure => simp [intOf]; omega
end Go.Proofs.Ytjfggfmhchoobaa
