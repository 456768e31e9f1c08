/- The walks of slices.Clone and disk.Read. -/
import Derived.Test.YtpipmkaljkhgiaaDoorDisk11
import Derived.Lib.SliceRun
namespace Go.Proofs.YtpipmkaljkhgiaaDoor
open Go Go.RowKit
set_option linter.unusedSimpArgs false
set_option linter.unusedVariables false

theorem OB_none (w : World) (base : Nat) : OB w base (.slice none 0 0) [] := World.ownsRow_nil w base _ _
set_option maxRecDepth 100000 in
set_option maxHeartbeats 1000000 in
theorem sclone_at (A : Option Addr) (n c : Nat) (bs : List UInt8) (w : World) (hn : n = bs.length) (hm : n ≤ 140737488000000) (hb : RB w A bs) :
    Calls Tryd.prog 36 #[.slice A n c] w fun e w' => ∃ v, e = .returned v ∧ OB w' w.heap.size v bs ∧ Below w.heap.size w w' := by
  have Hn := hid hn; clear hn
  have Hb := hid hb; clear hb
  have q22 : ∀ (w : World) (a : Option Addr) (n c n' c' : Nat), (binOp .eql 22 (.slice a n c) (.slice none n' c')).run Tryd.prog w = .ok (.bool a.isNone) w := fun w a n c n' c' => Lib.run_eql_slice_nil w _ 5 a n c n' c' Tryd.underlying22
  cases A with
  | none =>
    have hn0 : bs = [] := by
      rcases Hb.out with h | ⟨_, _, h, _⟩
      · cases bs with
        | nil => rfl
        | cons x l => simp [bvs] at h
      · cases h
    go_enter Tryd.func36, Tryd.ntmps36
    go_wp2
    go_ret
    exact ⟨_, rfl, by rw [hn0]; exact OB_none _ _, Below.refl _ _⟩
  | some ad =>
    go_enter Tryd.func36, Tryd.ntmps36
    go_wp2_with (at_builtin; refine wpList_appB (w0 := w) rfl (.tmp 5) (.tmp 6) rfl w.heap.size _ [] rfl (OB_empty w _ (Nat.le_refl _)) ((Below.refl _ _).alloc (Nat.le_refl _) _) (by simp) (some ad) c n bs rfl Hn (Hb.out.below ((Below.refl _ _).alloc (Nat.le_refl _) _)) (by simp; omega) ?_; intro v w1 Hob Hbel _)
    go_ret
    exact ⟨_, rfl, Hob, Hbel⟩
/-- What Read answers. -/
def readE (F : Files) (nm : List UInt8) : Int := if (atF F nm).isSome then 0 else 11
def readB (F : Files) (nm : List UInt8) : List UInt8 := ((atF F nm).map (·.b)).getD []
theorem RK.toRB {w : World} {K : Nat → Prop} {A : Option Addr} {bs : List UInt8} (h : RK w K A (bvs bs)) : RB w A bs := h.rv
set_option maxRecDepth 100000 in
set_option maxHeartbeats 1000000 in
theorem read_at {w : World} {S : Nat → Prop} {d m : Nat} {q l : Int} {G : Raw} {F : Files} (h : DiskS w d m q l) (hG : MapAt w m G) (hH : Held w S G F) (nm : List UInt8) (hn : nm.length ≤ 9223372036854775807) :
    Calls Tryd.prog 15 #[.pointer (some ⟨d, 0, none⟩), .string (str nm)] w fun e w' => ∃ v, e = .returned (.tuple #[v, .int .i64 (readE F nm)]) ∧ OB w' w.heap.size v (readB F nm) ∧ Ext w w' := by
  have hzf := zero_file
  unfold zfile at hzf
  have hlk := hG.look nm hn
  have c2 := h.files
  have hE0 : ∀ o, Hid (Ext w (w.alloc o)) := fun o => (Below.refl _ _).alloc (Nat.le_refl _) o
  rcases hH.at_ nm with ⟨h1, h2⟩ | ⟨f, v, h1, h2, A, c, rfl, hc, -, -, hb64, hr⟩
  · rw [h2] at hlk
    simp only [Option.getD_none, Option.isSome_none, zfile] at hlk
    have e1 := hid (show readE F nm = 11 by unfold readE; rw [h1]; rfl)
    have e2 := hid (show readB F nm = [] by unfold readB; rw [h1]; rfl)
    have HE := hE0 (.cells #[.slice none 0 0, .int .i64 0] 60)
    clear h hG hH h1 h2 hE0
    go_enter Tryd.func15, Tryd.ntmps15
    go_wp2
    go_ret2
    exact ⟨_, by rw [e1.out]; rfl, by rw [e2.out]; exact OB_none _ _, HE.out⟩
  · rw [h2] at hlk
    simp only [Option.getD_some, Option.isSome_some] at hlk
    have e1 := hid (show readE F nm = 0 by unfold readE; rw [h1]; rfl)
    have e2 := hid (show readB F nm = f.b by unfold readB; rw [h1]; rfl)
    obtain ⟨n, hnn⟩ : ∃ n, n = f.b.length := ⟨_, rfl⟩
    rw [← hnn] at hlk hb64
    have Hnn := hid hnn
    have Hr := hid hr.toRB
    have HE := hE0 (.cells #[.slice A n c, .int .i64 (f.safe : Int)] 60)
    clear h hG hH h1 h2 hE0 hr hnn hc
    go_enter Tryd.func15, Tryd.ntmps15
    go_wp2_with fail
    have hcc := sclone_at A n c f.b (w.alloc (.cells #[.slice A n c, .int .i64 (f.safe : Int)] 60)) Hnn.out (by omega) (Hr.out.below HE.out)
    refine hcc.mono ?_; clear hcc
    rintro e w1 ⟨v1, rfl, hO, hB⟩
    have HO := hid hO; have HB := hid hB; clear hO hB
    go_wp2
    go_ret2
    exact ⟨_, by rw [e1.out]; rfl, by rw [e2.out]; exact HO.out.base HE.out.size, below_all HE.out HB.out⟩
end Go.Proofs.YtpipmkaljkhgiaaDoor
