/- The walks of the reference of chapter 2: Entry, Sum, Seal, Open. -/
import Derived.Test.YtjfggfmhchoobaaCrcSeal
import Derived.Test.YtjfggfmhchoobaaConv
import Derived.Deep.RegionHeld3
namespace Go.Proofs.Ytjfggfmhchoobaa
open Go Go.RowKit
set_option linter.unusedSimpArgs false
set_option linter.unusedVariables false

set_option maxRecDepth 100000 in
theorem entry_calls (i : Int) (h0 : 0 ≤ i) (h1 : i < 4294967296) (w : World) :
    Calls Try.prog 20 #[.int .i64 i] w fun e w' => e = .returned (.int .u32 ((Crc.tab i.toNat).toNat : Int)) ∧ w = w' := by
  obtain ⟨n, rfl⟩ := Int.eq_ofNat_of_zero_le h0
  have hn : n < 4294967296 := by omega
  rw [Int.toNat_natCast]
  have hmod : ((n : Int) % 4294967296) = n := by omega
  have hb0 : (BitVec.ofNat 32 n).toNat = n := by simp; omega
  have Hb := hid hb0
  clear hn h0 h1 hb0
  go_enter Try.func20, Try.ntmps20
  go_wp2
  go_loop [3, 4] (fun x j => ∃ (m : Nat) (y : BitVec 32), m ≤ 8 ∧ j = .int .i64 m ∧ x = .int .u32 (y.toNat : Int) ∧ Hid (y = Nat.repeat Crc.step m (BitVec.ofNat 32 n))) (fun _ j => 8 - (intOf j).toNat)
  case atStart => exact ⟨0, BitVec.ofNat 32 n, by omega, rfl, by rw [Hb.out], rfl⟩
  case round =>
    clear hmod
    obtain ⟨m, y, hm, rfl, rfl, Hy⟩ := hrel
    by_cases hmt : m < 8
    · have e := step_bits y
      have hy := y.isLt
      by_cases hb : y.toNat % 2 = 1
      · have hb' : ((y.toNat : Int) % 2 == 1) = true := by rw [beq_iff_eq]; omega
        rw [if_pos hb] at e
        clear hb hy
        go_wp2
        all_goals
          go_round
          case rel => exact ⟨m + 1, Crc.step y, by omega, by go_num, rfl, by rw [Hy.out]; rfl⟩
          case measure => simp [intOf]; omega
      · have hb' : ((y.toNat : Int) % 2 == 1) = false := by rw [beq_eq_false_iff_ne]; omega
        rw [if_neg hb] at e
        clear hb hy
        go_wp2
        all_goals
          go_round
          case rel => exact ⟨m + 1, Crc.step y, by omega, by go_num, by rw [← e], by rw [Hy.out]; rfl⟩
          case measure => simp [intOf]; omega
    · obtain rfl : m = 8 := by omega
      have hy : y = Crc.tab n := by rw [Crc.tab_repeat]; exact Hy.out
      subst hy
      go_wp2
      go_ret
      exact ⟨rfl, rfl⟩

set_option maxRecDepth 100000 in
theorem refSum_calls (A : Option Addr) (c : Nat) (bs : List UInt8) (w : World) (hm : bs.length ≤ 140737488355328) (hb : RB w A bs) :
    Calls Try.prog 21 #[.slice A bs.length c] w fun e w' => e = .returned (.int .u32 ((Crc.sum bs).toNat : Int)) ∧ w = w' := by
  obtain ⟨n, hn⟩ : ∃ n, n = bs.length := ⟨_, rfl⟩
  rw [← hn] at hm ⊢
  have Hn := hid hn; clear hn
  go_enter Try.func21, Try.ntmps21
  go_wp2
  go_loop [3, 4] (fun r i => ∃ k : Nat, k ≤ n ∧ i = .int .i64 k ∧ r = .int .u32 ((Crc.reg Crc.ones (bs.take k)).toNat : Int)) (fun _ i => n - (intOf i).toNat)
  case atStart => exact ⟨0, by omega, rfl, by simp [Crc.reg, Crc.ones]⟩
  case round =>
    obtain ⟨k, hk, rfl, rfl⟩ := hrel
    by_cases hlt : k < n
    · have hlt' : k < bs.length := by rw [← Hn.out]; exact hlt
      have hs := congrArg BitVec.toNat (show Crc.reg Crc.ones (bs.take (k + 1)) = Crc.upd (Crc.reg Crc.ones (bs.take k)) bs[k] by
        rw [← Crc.reg_snoc, List.take_succ_eq_append_getElem hlt'])
      rw [Crc.upd_toNat] at hs
      have hrl := (Crc.reg Crc.ones (bs.take k)).isLt
      generalize (Crc.reg Crc.ones (bs.take k)).toNat = r at hs hrl ⊢
      obtain ⟨p, o, rfl, hc⟩ := hb.at_ k hlt'
      have hcl := bs[k].toNat_lt
      generalize bs[k].toNat = x at hs hc hcl
      have hx : r % 256 ^^^ x < 2 ^ 8 := Nat.xor_lt_two_pow (by omega) (by omega)
      have e0 : (r ^^^ x) % 256 = r % 256 ^^^ x := by
        rw [show (256 : Nat) = 2 ^ 8 from rfl, Nat.xor_mod_two_pow, Nat.mod_eq_of_lt (a := x) (by omega)]
      have e1 := u32_xor_nat r x (by omega) (by omega)
      have htl := (Crc.tab (r % 256 ^^^ x)).isLt
      have he := entry_calls (((r ^^^ x : Nat) : Int) % 256) (by omega) (by omega) w
      rw [show (((r ^^^ x : Nat) : Int) % 256).toNat = r % 256 ^^^ x by omega] at he
      generalize (Crc.tab (r % 256 ^^^ x)).toNat = y at hs htl he
      generalize r ^^^ x = t at e0 e1 he
      have e2 : bits .xor .u32 ((r : Int) / 256 % 4294967296) (y : Int) = ((r / 256 ^^^ y : Nat) : Int) := by
        rw [show ((r : Int) / 256 % 4294967296) = ((r / 256 : Nat) : Int) by omega]; exact u32_xor_nat (r / 256) y (by omega) htl
      rw [← hs] at e2
      have Hs := hid hs; have He := hid he; have E0 := hid e0; clear hs hb hx hrl htl e0 he
      go_wp2_with (go_at_call 20; refine He.out.mono ?_; rintro e w' ⟨rfl, rfl⟩)
      go_round
      case rel => exact ⟨k + 1, by omega, by go_num, rfl⟩
      case measure => simp [intOf]; omega
    · obtain rfl : k = n := by omega
      have hl : bs.take k = bs := List.take_of_length_le (by rw [← Hn.out]; exact Nat.le_refl _)
      rw [hl]
      have e3 : bits .xor .u32 ((Crc.reg Crc.ones bs).toNat : Int) 4294967295 = ((Crc.sum bs).toNat : Int) := by
        have := u32_xor_nat (Crc.reg Crc.ones bs).toNat 4294967295 (Crc.reg Crc.ones bs).isLt (by omega)
        rw [show (4294967295 : Int) = ((4294967295 : Nat) : Int) from rfl, this]
        unfold Crc.sum
        rw [BitVec.toNat_xor]
        rfl
      clear hl hb
      go_wp2
      go_ret
      exact ⟨rfl, rfl⟩

set_option maxRecDepth 100000 in
theorem refSeal_calls (A : Option Addr) (c : Nat) (bs : List UInt8) (w : World) (hm : bs.length ≤ 140737488000000) (hb : RB w A bs) :
    Calls Try.prog 23 #[.slice A bs.length c] w (RetB w (Crc.seal_ bs)) := by
  obtain ⟨n, hn⟩ : ∃ n, n = bs.length := ⟨_, rfl⟩
  have hnm : n ≤ 140737488000000 := by omega
  rw [← hn]
  have Hn := hid hn; clear hn
  have Hm := hid hm; clear hm
  have Hb := hid hb; clear hb
  go_enter Try.func23, Try.ntmps23
  go_wp2_with fail
  rw [Hn.out]
  refine (refSum_calls A c bs w (by have := Hm.out; omega) Hb.out).mono ?_
  rintro e w' ⟨rfl, rfl⟩
  go_wp2_with (at_builtin; first
    | (refine wpList_appB (w0 := w) rfl (.tmp 6) (.tmp 7) rfl w.heap.size _ [] rfl (OB_empty w _ (Nat.le_refl _)) ((Below.refl _ _).alloc (Nat.le_refl _) _) (by simp) A c bs.length bs rfl rfl (Hb.out.below ((Below.refl _ _).alloc (Nat.le_refl _) _)) (by have := Hm.out; simp; omega) ?_; intro v w1 Hob Hbel _; have hsz := Hbel.out.size)
    | (refine wpList_appB (w0 := w) rfl (.tmp 8) (.tmp 20) rfl w.heap.size _ _ rfl (World.ownsRow.alloc Hob.out _) (Hbel.out.alloc hsz _) (by simp; omega) _ 4 4 (Crc.le4 (Crc.sum bs)) rfl (Crc.le4_length _).symm (RB_box _ _ _ (by have := (Crc.sum bs).isLt; simp [le4_eq, bvs, bv, byteOf]; omega)) (by have := Hm.out; simp; omega) ?_; intro v2 w2 Hob2 Hbel2 _))
  go_ret
  exact ⟨_, rfl, by rw [Crc.seal_eq]; exact Hob2, Hbel2⟩

/-- What Open answers. -/
def RetOpen (w : World) (bs : List UInt8) (e : Ending) (w' : World) : Prop :=
  (∃ v, e = .returned (.tuple #[v, .int .i64 (if Crc.good bs then 0 else 2)]) ∧ OB w' w.heap.size v (if Crc.good bs then bs.take (bs.length - 4) else [])) ∧ Below w.heap.size w w'

theorem good_short {bs : List UInt8} (h : bs.length < 4) : Crc.good bs = false := by
  unfold Crc.good
  simp
  intro h'; omega
theorem OB_nil (w : World) (base : Nat) : OB w base (.slice none 0 0) [] := World.ownsRow_nil w _ _ _

set_option maxRecDepth 100000 in
set_option maxHeartbeats 1000000 in

theorem refOpen_calls (A : Option Addr) (c : Nat) (bs : List UInt8) (w : World) (hm : bs.length ≤ 140737488000000) (hc : bs.length ≤ c) (hb : RB w A bs) :
    Calls Try.prog 19 #[.slice A bs.length c] w (RetOpen w bs) := by
  obtain ⟨n, hn⟩ : ∃ n, n = bs.length := ⟨_, rfl⟩
  have hnm : n ≤ 140737488000000 := by omega
  have hcn : n ≤ c := by omega
  clear hc
  rw [← hn]
  have Hn := hid hn; clear hn
  have Hm := hid hm; clear hm
  have Hb := hid hb; clear hb
  by_cases h4 : n < 4
  · have Hg := hid (good_short (bs := bs) (by rw [← Hn.out]; exact h4))
    go_enter Try.func19, Try.ntmps19
    go_wp2
    go_ret2
    exact ⟨⟨_, by rw [Hg.out]; rfl, by rw [Hg.out]; exact OB_nil _ _⟩, Below.refl _ _⟩
  · have h4' : 4 ≤ n := by omega
    go_enter Try.func19, Try.ntmps19
    go_wp2_with (at_builtin; refine wpList_appB (w0 := w) rfl (.tmp 8) (.tmp 13) rfl w.heap.size _ [] rfl (OB_empty w _ (Nat.le_refl _)) ((Below.refl _ _).alloc (Nat.le_refl _) _) (by simp) A c (n - 4) (bs.take (n - 4)) rfl (show n - 4 = _ by rw [List.length_take, ← Hn.out]; omega) ((Hb.out.take (n - 4)).below ((Below.refl _ _).alloc (Nat.le_refl _) _)) (by have := Hm.out; simp; omega) ?_; intro v w1 Hob Hbel _; have hsz := Hbel.out.size)
    rw [List.nil_append] at Hob
    obtain ⟨A1, c1, rfl, -, hr1⟩ := Hob.out.read
    have Hr1 := hid hr1; clear hr1
    have hq : (Crc.seal_ (bs.take (n - 4)) == bs) = Crc.good bs := by
      unfold Crc.good; rw [← Hn.out]; simp [h4']
    have hl1 : (bs.take (n - 4)).length ≤ 140737488000000 := by have := Hm.out; simp; omega
    have Hl1 := hid hl1; clear hl1
    have Hq := hid hq; clear hq
    have Hw1 := hid (Hb.out.below Hbel.out)
    obtain ⟨x, hx⟩ : ∃ x, x = bs.take (n - 4) := ⟨_, rfl⟩
    rw [← hx] at Hob Hr1 Hl1 Hq ⊢
    have Hx := hid hx; clear hx
    refine wp_drawn [isV (.slice A1 x.length c1), ownsV w1.heap.size (Crc.seal_ x), isV (.string (str (Crc.seal_ x))), isV (.slice A n c), isV (.string (str bs)), isV (.bool (!Crc.good bs))] (by kernel_rfl) ?hok ?steps ?fin
    case hok => kernel_rfl
    case steps =>
      refine ⟨?s0, ?s1, ?s2, ?s3, ?s4, ?s5, trivial⟩
      case s1 =>
        intro v W hE hd; simp only [Region.wanted, ↓reduceIte]; (try simp [deps, waitsOn, Region.binds, knowing, isV, ownsV, anyV] at hd); simp only [putAll, List.take_succ_cons, List.take_zero, List.drop_succ_cons, List.drop_zero, Act.put, List.setIfInBounds_toArray, List.set_cons_zero, List.set_cons_succ, Nat.zero_add, Nat.reduceAdd]
        go_simp
        have hcc := refSeal_calls A1 c1 x W Hl1.out (Hr1.out.below hE)
        refine hcc.mono ?_
        rintro e w2 ⟨v2, rfl, Hob2, Hbel2⟩
        have HO := hid Hob2; have HB := hid Hbel2; clear Hob2 Hbel2
        go_simp
        exact ⟨HB.out, HO.out.base hE.size⟩
      case s2 =>
        intro v W hE hd; simp only [Region.wanted, ↓reduceIte]; (try simp [deps, waitsOn, Region.binds, knowing, isV, ownsV, anyV] at hd); simp only [putAll, List.take_succ_cons, List.take_zero, List.drop_succ_cons, List.drop_zero, Act.put, List.setIfInBounds_toArray, List.set_cons_zero, List.set_cons_succ, Nat.zero_add, Nat.reduceAdd]
        obtain ⟨A2, c2, e2, -, hr2⟩ := OB.read hd
        have e3 := run_str hr2 c2
        go_simp
        exact ⟨Below.refl _ _, rfl⟩
      case s4 =>
        intro v W hE hd; simp only [Region.wanted, ↓reduceIte]; (try simp [deps, waitsOn, Region.binds, knowing, isV, ownsV, anyV] at hd); simp only [putAll, List.take_succ_cons, List.take_zero, List.drop_succ_cons, List.drop_zero, Act.put, List.setIfInBounds_toArray, List.set_cons_zero, List.set_cons_succ, Nat.zero_add, Nat.reduceAdd]
        have e3 := run_str (Hw1.out.below hE) c
        rw [← Hn.out] at e3
        go_simp
        exact ⟨Below.refl _ _, rfl⟩
      case s5 =>
        intro v W hE hd; simp only [Region.wanted, ↓reduceIte]; (try simp [deps, waitsOn, Region.binds, knowing, isV, ownsV, anyV] at hd); simp only [putAll, List.take_succ_cons, List.take_zero, List.drop_succ_cons, List.drop_zero, Act.put, List.setIfInBounds_toArray, List.set_cons_zero, List.set_cons_succ, Nat.zero_add, Nat.reduceAdd]
        go_simp
        refine ⟨Below.refl _ _, ?_⟩
        rw [← Hq.out]
        simp [str_toList, knowing, isV, bne]
      all_goals (intro v W hE hd; simp only [Region.wanted, ↓reduceIte]; (try simp [deps, waitsOn, Region.binds, knowing, isV, ownsV, anyV] at hd); simp only [putAll, List.take_succ_cons, List.take_zero, List.drop_succ_cons, List.drop_zero, Act.put, List.setIfInBounds_toArray, List.set_cons_zero, List.set_cons_succ, Nat.zero_add, Nat.reduceAdd]; go_simp; exact ⟨Below.refl _ _, rfl⟩)
    case fin =>
      rintro v W hE ⟨h0, h1, h2, h3, h4, h5, -⟩
      have e5 : v 5 = .bool (!Crc.good bs) := h5
      simp only [putAll, List.take_succ_cons, List.take_zero, List.drop_succ_cons, List.drop_zero, Act.put, List.setIfInBounds_toArray, List.set_cons_zero, List.set_cons_succ, Nat.zero_add, Nat.reduceAdd]
      rw [e5]
      have hO := Hob.out.below hE
      have hB := below_then Hbel.out Hbel.out.size hE
      clear hE h0 h1 h2 h3 h4 h5 e5
      cases hg : Crc.good bs
      · go_wp2
        go_ret2
        exact ⟨⟨_, by rw [hg]; rfl, by rw [hg]; exact OB_nil _ _⟩, hB⟩
      · go_wp2
        go_ret2
        exact ⟨⟨_, by rw [hg]; rfl, by rw [hg, ← Hn.out, if_pos rfl, ← Hx.out]; exact hO⟩, hB⟩
end Go.Proofs.Ytjfggfmhchoobaa
