/- The walk of frame.Scan (chapter 9). -/
import Derived.Test.YtjfggfmhchoobaaFrame4
import Derived.Test.YtjfggfmhchoobaaRep
namespace Go.Proofs.Ytjfggfmhchoobaa
open Go Go.RowKit
set_option linter.unusedSimpArgs false
set_option linter.unusedVariables false

/-- A slice of bytes from a place on. -/
theorem slice_from (A : Option Addr) (n c : Nat) (bs : List UInt8) (w : World) (hn : n = bs.length) (hc : n ≤ c) (hb : RB w A bs) (k : Nat) (hk : k ≤ n) :
    ∃ A', RB w A' (bs.drop k) ∧ ∀ w', (Instr.sliceAt 22 (.slice A n c) (some (.int .i64 (k : Int))) none none).run Try.prog w' = .ok (.slice A' (n - k) (c - k)) w' := by
  have hel : Try.prog.elem 22 = 5 := by kernel_rfl
  have ht : Try.prog.underlying 22 = some (.slice (Try.prog.elem 22)) := by rw [hel]; exact Try.underlying22
  have hsz : ∀ w, (sizeOf 5).run Try.prog w = .ok 1 w := fun w => by go_simp
  have hrun : ∀ w', (Instr.sliceAt 22 (.slice A n c) (some (.int .i64 (k : Int))) none none).run Try.prog w' = .ok (sliced A k n c 1) w' := by
    intro w'
    rw [run_sliceAt_slice (h := ht), run_slice_l (ht := ht) (h0 := by omega) (h1 := by omega), hel, hsz, Int.toNat_natCast]
    rfl
  unfold sliced at hrun
  by_cases he : c = k
  · rw [if_pos he] at hrun
    refine ⟨A, ?_, hrun⟩
    rw [List.drop_eq_nil_of_le (by omega)]; exact RB.nil _ _
  · rw [if_neg he] at hrun
    refine ⟨_, ?_, hrun⟩
    by_cases h0 : k < n
    · obtain ⟨g, o, rfl, _⟩ := hb.at_ 0 (by omega)
      have := hb.drop k
      by_cases hk0 : k = 0
      · subst hk0; simpa [Addr.add] using this
      · simpa [Addr.add, hk0] using this
    · rw [List.drop_eq_nil_of_le (by omega)]; exact RB.nil _ _

/-- What Scan answers. -/
def RetScan (w : World) (bs : List UInt8) (e : Ending) (w' : World) : Prop :=
  ∃ v, e = .returned (.tuple #[v, .int .i64 ((Frm.total (Frm.scan bs) : Nat) : Int)]) ∧ OwnR (Rep.slice Rep.u8) 22 w' w.heap.size v (Frm.scan bs) ∧ Below w.heap.size w w'
theorem take_state (bs : List UInt8) (done : List (List UInt8)) (at_ : Nat) (h : Frm.scan bs = done ++ Frm.scan (bs.drop at_)) (ha : at_ = Frm.total done) (hl : at_ ≤ bs.length) :
    match Frm.takeF (bs.drop at_) with
    | none => Frm.scan bs = done ∧ Frm.total (Frm.scan bs) = at_
    | some x => Frm.scan bs = (done ++ [x]) ++ Frm.scan (bs.drop (at_ + (8 + x.length))) ∧ at_ + (8 + x.length) = Frm.total (done ++ [x]) ∧ at_ + (8 + x.length) ≤ bs.length ∧ x.length ≤ 16384 := by
  cases ht : Frm.takeF (bs.drop at_) with
  | none =>
    rw [Frm.scan_none ht, List.append_nil] at h
    exact ⟨h, by rw [h, ha]⟩
  | some x =>
    have hx := Frm.take_some ht
    rw [Frm.scan_some ht, List.drop_drop] at h
    refine ⟨by rw [h, List.append_assoc]; rfl, ?_, ?_, hx.1⟩
    · rw [ha]; simp [Frm.total]
    · have := hx.2.1; simp at this; omega
theorem total_len (l : List (List UInt8)) : 8 * l.length ≤ Frm.total l := by
  induction l with
  | nil => simp [Frm.total]
  | cons x l ih => simp [Frm.total] at ih ⊢; omega
theorem sl_slice : SlInfo Try.prog 47 22 (.slice none 0 0) 1 24 := ⟨Try.underlying47, by kernel_rfl, rfl, by omega⟩
/-- A row of bytes of one's own, made after u, is an element that u may hold. -/
theorem fresh_row {w1 : World} {B : Nat} {v1 u : Value} {x : List UInt8} (hO : OB w1 B v1 x) (hu : ∀ b, u.ownBlock = some b → b < B) : (Rep.slice Rep.u8).rel w1 (Others w1 u) x [v1] := by
  have hO' : OwnR Rep.u8 5 w1 B v1 x := ⟨_, hO, rows_u8 x⟩
  obtain ⟨A, c, e, -, h2, h3, cs, hr, hk⟩ := hO'.read
  have hcs := rows_u8_eq hr
  subst hcs
  refine ⟨A, c, bvs x, by rw [e], h2, h3, rows_u8 x, RK.of_rv hk.rv fun b o hA hb => ⟨hb, fun hq => ?_⟩⟩
  have h1 := hu b hq
  have := own_base hO b (by rw [e, hA]; rfl)
  omega
theorem fresh_box {w1 : World} {B : Nat} {v1 u : Value} {x : List UInt8} (hO : OB w1 B v1 x) (hu : ∀ b, u.ownBlock = some b → b < B) (t : TypeId) :
    ∃ cs, Rows (Rep.slice Rep.u8) (w1.alloc (.cells #[v1] t)) (Others (w1.alloc (.cells #[v1] t)) u) [x] cs ∧ RV (w1.alloc (.cells #[v1] t)) (some ⟨w1.heap.size, 0, none⟩) cs := by
  have h := fresh_row hO hu
  have hE : Ext w1 (w1.alloc (.cells #[v1] t)) := (Below.refl _ _).alloc (Nat.le_refl _) _
  refine ⟨[v1], Rows.single (((Rep.slice Rep.u8).ext h fun k hk => hE.block k hk.1) |> fun h => (Rep.slice Rep.u8).mono h fun k hk => ⟨Nat.lt_of_lt_of_le hk.1 hE.size, hk.2⟩), RV.box _ _ _⟩
theorem OwnR.old {α : Type} {R : Rep α} {e : TypeId} {w : World} {base : Nat} {v : Value} {xs : List α} (h : OwnR R e w base v xs) : ∀ b, v.ownBlock = some b → b < w.heap.size := by
  obtain ⟨cs, ho, _⟩ := h
  exact fun b hb => (World.ownsRow.lt ho b hb).2

set_option maxRecDepth 100000 in
set_option maxHeartbeats 2000000 in
theorem scan_at (tb : Nat) (A : Option Addr) (n c : Nat) (bs : List UInt8) (w : World) (hn : n = bs.length) (hm : n ≤ 1000000000) (hc : n ≤ c) (ht : TabAt w tb) (hb : RB w A bs) :
    Calls Try.prog 30 #[.pointer (some ⟨tb, 0, none⟩), .slice A n c] w (RetScan w bs) := by
  have Hn := hid hn; clear hn
  have Hb := hid hb; clear hb
  have Ht := hid ht; clear ht
  go_enter Try.func30, Try.ntmps30
  go_wp2_with fail
  go_loopw [6, 7] (fun l i wr => ∃ (done : List (List UInt8)) (k : Nat), k ≤ n ∧ i = .int .i64 k ∧ Hid (Frm.scan bs = done ++ Frm.scan (bs.drop k)) ∧ Hid (k = Frm.total done) ∧ Hid (OwnR (Rep.slice Rep.u8) 22 wr w.heap.size l done) ∧ Hid (Below w.heap.size w wr)) (fun _ i _ => n - (intOf i).toNat)
  case atStart =>
    exact ⟨[], 0, by omega, rfl, rfl, hid (by simp [Frm.total]), OwnR.nil _ _, Below.refl _ _⟩
  case round =>
    obtain ⟨done, k, hk, rfl, Hsc, Hkt, Hown, HB⟩ := hrel
    rename Value => vl
    have Hbr := hid (Hb.out.below HB.out)
    obtain ⟨A', hr', hq⟩ := slice_from A n c bs wr Hn.out hc Hbr.out k hk
    have Hr' := hid hr'; clear hr'
    go_wp2_with fail
    have hcc := take_at tb A' (n - k) (c - k) (bs.drop k) wr (by rw [List.length_drop, ← Hn.out]) (by omega) (by omega) (Ht.out.below HB.out) Hr'.out
    refine hcc.mono ?_; clear hcc
    rintro e w1 ⟨hB1, hres⟩
    have HB1 := hid hB1; clear hB1
    have hst := take_state bs done k Hsc.out Hkt.out (by have := Hn.out; omega)
    cases htk : Frm.takeF (bs.drop k) with
    | none =>
      rw [htk] at hres hst
      simp only [] at hres hst
      subst hres
      have Hst := hid hst; clear hst htk hq
      have HBf := hid (below_then HB.out HB.out.size HB1.out)
      have Hownf := hid (Hown.out.ext HB1.out)
      go_wp2
      go_ret2
      refine ⟨_, by rw [Hst.out.2]; rfl, ?_, HBf.out⟩
      rw [Hst.out.1]; exact Hownf.out
    | some x =>
      rw [htk] at hres hst
      simp only [] at hres hst
      obtain ⟨v1, rfl, hO1⟩ := hres
      have hbx := fresh_box hO1 Hown.out.old 22
      have Hbx := hid hbx; clear hbx
      obtain ⟨A1, c1, rfl, hc1, Hr1⟩ := hO1.readAt
      have HO1 := hid hO1
      have Hst := hid hst
      have hkx : k + (8 + x.length) ≤ n := by have := hst.2.2.1; have := Hn.out; omega
      clear hst htk hq hO1
      have HBf := hid (below_then HB.out HB.out.size HB1.out)
      have Hownf := hid (Hown.out.ext HB1.out)
      have hk8 : 0 < 8 + x.length := by omega
      obtain ⟨p, hp⟩ : ∃ p, p = 8 + x.length := ⟨_, rfl⟩
      rw [← hp] at Hst hkx hk8 ⊢
      clear hp
      have hdl : done.length ≤ 1000000000 := by have := total_len done; have := Hkt.out; omega
      go_wp2_with (at_builtin; refine wpList_appR (w0 := w) (R := Rep.slice Rep.u8) (xs := done) sl_slice rfl (.tmp 22) (.tmp 24) rfl rfl (hid (Hownf.out.ext ((Below.refl _ _).alloc (Nat.le_refl _) _))) (hid (HBf.out.alloc HBf.out.size _)) (by have := HBf.out.size; simp; omega) (some ⟨w1.heap.size, 0, none⟩) 1 1 [x] rfl rfl Hbx (by omega) (by omega) ?_; intro v2 w2 Hown2 HB2 _)
      go_roundw
      case rel =>
        refine ⟨done ++ [x], k + p, by omega, rfl, ?_, ?_, Hown2, HB2⟩
        · exact Hst.out.1
        · exact Hst.out.2.1
      case measure => simp [intOf]; omega
end Go.Proofs.Ytjfggfmhchoobaa
