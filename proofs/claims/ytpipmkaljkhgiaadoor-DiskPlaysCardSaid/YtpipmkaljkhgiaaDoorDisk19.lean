/- The walk of disk.Rename. -/
import Derived.Test.YtpipmkaljkhgiaaDoorDisk18
namespace Go.Proofs.YtpipmkaljkhgiaaDoor
open Go Go.RowKit
set_option linter.unusedSimpArgs false
set_option linter.unusedVariables false

def renEF (l : Int) (F : Files) (a b : List UInt8) : Int := if l = 0 then 14 else if atF F a = none then 11 else if mayB b = false then 5 else if (atF F b).isSome then 12 else 0
def renF (l : Int) (F : Files) (a b : List UInt8) : Files := match atF F a with
  | none => F
  | some f => if renEF l F a b = 0 then putF b f (delF a F) else F
set_option maxRecDepth 100000 in
set_option maxHeartbeats 2000000 in
theorem rename_at {w : World} {S : Nat → Prop} {d m : Nat} {q l : Int} {F : Files} (h : DiskIs w S d m q l F) (na nb : List UInt8) (hna : na.length ≤ 9223372036854775807) (hnb : nb.length ≤ 9223372036854775807) :
    Calls Tryd.prog 25 #[.pointer (some ⟨d, 0, none⟩), .string (str na), .string (str nb)] w fun e w' => e = .returned (.int .i64 (renEF l F na nb)) ∧ DiskIs w' S d m q (burnL l) (renF l F na nb) ∧ Kept2 d m w w' := by
  have H := hid h
  obtain ⟨G, hG, hH⟩ := h.map
  have HG := hid hG; have HH := hid hH
  have hzf := zero_file
  unfold zfile at hzf
  have hmc := fun w => may_at nb w
  clear h hG hH
  go_enter Tryd.func25, Tryd.ntmps25
  go_wp2_with fail
  have hcc := known_raw H.out.str HG.out H.out.ne H.out.lr na hna
  refine hcc.mono ?_; clear hcc
  rintro e w1 ⟨rfl, h1, hg1, k1⟩
  have H1 := hid h1; have HG1 := hid hg1; have K1 := hid k1
  clear h1 hg1 k1
  have hdone : ∀ (w' : World), Ext w1 w' → renF l F na nb = F → DiskIs w' S d m q (burnL l) (renF l F na nb) ∧ Kept2 d m w w' := fun w' hE e => by
    have hk := K1.out.trans (Kept2.of_ext hE)
    rw [e]
    exact ⟨H.out.after (H1.out.ext hE) ⟨_, HG1.out.ext hE, HH.out.kept hk H.out.own H.out.ownM⟩ hk H.out.few (burnL_range H.out.lr), hk⟩
  have Hdone := hid hdone; clear hdone
  by_cases h0 : l = 0
  · have e1 := hid (show knownV l G na = .agg #[.slice none 0 0, .int .i64 0] by unfold knownV; rw [if_pos h0]; rfl)
    have e2 := hid (show knownE l G na = 14 by unfold knownE; rw [if_pos h0])
    have e3 := hid (show renEF l F na nb = 14 by unfold renEF; rw [if_pos h0])
    have e4 := hid (show renF l F na nb = F by unfold renF; rw [e3.out]; split <;> rfl)
    rw [e1.out, e2.out]
    go_wp2
    go_ret
    exact ⟨by rw [e3.out]; rfl, Hdone.out _ ((Below.refl _ _).alloc (Nat.le_refl _) _) e4.out⟩
  rcases HH.out.at_ na with ⟨a1, a2⟩ | ⟨f, v, a1, a2, A, c, rfl, hc, hcm, hs, hb64, hr⟩
  · have e1 := hid (show knownV l G na = .agg #[.slice none 0 0, .int .i64 0] by unfold knownV; rw [if_neg h0, a2]; rfl)
    have e2 := hid (show knownE l G na = 11 by unfold knownE; rw [if_neg h0, a2]; rfl)
    have e3 := hid (show renEF l F na nb = 11 by unfold renEF; rw [if_neg h0, if_pos a1])
    have e4 := hid (show renF l F na nb = F by unfold renF; rw [a1])
    rw [e1.out, e2.out]
    clear a1 a2
    go_wp2
    go_ret
    exact ⟨by rw [e3.out]; rfl, Hdone.out _ ((Below.refl _ _).alloc (Nat.le_refl _) _) e4.out⟩
  obtain ⟨n, hnn⟩ : ∃ n, n = f.b.length := ⟨_, rfl⟩
  rw [← hnn] at a2 hc hs hb64
  have e1 := hid (show knownV l G na = .agg #[.slice A n c, .int .i64 (f.safe : Int)] by unfold knownV; rw [if_neg h0, a2]; rfl)
  have e2 := hid (show knownE l G na = 0 by unfold knownE; rw [if_neg h0, a2]; rfl)
  rw [e1.out, e2.out]
  have A1 := hid a1; have Hnn := hid hnn; have Hr := hid hr
  clear a1 a2 hnn hr
  go_wp2_with fail
  refine (hmc _).mono ?_
  clear hmc
  rintro e w3 ⟨rfl, hb3⟩
  have hE3 : Ext w1 w3 := Ext.trans' ((Below.refl _ _).alloc (Nat.le_refl _) _) hb3
  have HE3 := hid hE3
  have Hf0 := hid (cell_below hb3 (show (w1.alloc (.cells #[.slice A n c, .int .i64 (f.safe : Int)] 60)).cell? ⟨w1.heap.size, 0, none⟩ = some (.slice A n c) by rw [cell_of_row _ _ _ _ _ _ (heap_alloc_last w1 _)]; rfl))
  have Hf1 := hid (cell_below hb3 (show (w1.alloc (.cells #[.slice A n c, .int .i64 (f.safe : Int)] 60)).cell? ⟨w1.heap.size, 1, none⟩ = some (.int .i64 (f.safe : Int)) by rw [cell_of_row _ _ _ _ _ _ (heap_alloc_last w1 _)]; rfl))
  clear hE3 hb3
  cases hmay : mayB nb
  · have e3 := hid (show renEF l F na nb = 5 by unfold renEF; rw [if_neg h0, if_neg (by rw [A1.out]; simp), if_pos hmay])
    have e4 := hid (show renF l F na nb = F by unfold renF; rw [e3.out, A1.out]; rfl)
    clear hmay
    go_wp2
    go_ret
    exact ⟨by rw [e3.out]; rfl, Hdone.out _ HE3.out e4.out⟩
  have Hmay := hid hmay; clear hmay
  have hlk := (HG1.out.ext HE3.out).look nb hnb
  have c2 := (H1.out.ext HE3.out).files
  have g3 : w1.heap.size < w3.heap.size := World.block_lt_of_cell? w3 ⟨w1.heap.size, 0, none⟩ Hf0.out
  rcases HH.out.at_ nb with ⟨b1, b2⟩ | ⟨f2, v, b1, b2, A2, c2', rfl, -, -, -, -, -⟩
  rotate_left
  · have e3 := hid (show renEF l F na nb = 12 by unfold renEF; rw [if_neg h0, if_neg (by rw [A1.out]; simp), if_neg (by rw [Hmay.out]; decide), if_pos (by rw [b1]; rfl)])
    have e4 := hid (show renF l F na nb = F by unfold renF; rw [e3.out, A1.out]; rfl)
    rw [b2] at hlk
    simp only [Option.getD_some, Option.isSome_some] at hlk
    clear b1 b2
    go_wp2
    go_ret
    exact ⟨by rw [e3.out]; rfl, Hdone.out _ (Ext.trans' HE3.out ((Below.refl _ _).alloc (Nat.le_refl _) _)) e4.out⟩
  have E3 := hid (show renEF l F na nb = 0 by unfold renEF; rw [if_neg h0, if_neg (by rw [A1.out]; simp), if_neg (by rw [Hmay.out]; decide), if_neg (by rw [b1]; decide)])
  have E4 := hid (show renF l F na nb = putF nb f (delF na F) by unfold renF; rw [E3.out, A1.out]; rfl)
  rw [b2] at hlk
  simp only [Option.getD_none, Option.isSome_none, zfile] at hlk
  have B1 := hid b1
  clear b1 b2
  have hE4 : Ext w1 (w3.alloc (.cells #[.slice none 0 0, .int .i64 0] 60)) := Ext.trans' HE3.out ((Below.refl _ _).alloc (Nat.le_refl _) _)
  obtain ⟨w5, hrun, hM5, ht5⟩ := (HG1.out.ext hE4).drop na hna 0
  have Ht5 := hid ht5.grown
  have HM5 := hid hM5
  have HD5 := hid (show DiskS w5 d m q (burnL l) from (H1.out.ext hE4).of_block (ht5.grown.block d (H1.out.ext hE4).lt (fun e => H.out.ne (by simpa using e))))
  have HK5 := hid ((K1.out.trans (Kept2.of_ext hE4)).trans (Kept2.of_grown ht5.grown (.inr rfl)))
  have hmn : w1.heap.size ≠ m := by
    have := HG1.out.lt
    omega
  have hbk : w5.heap[w1.heap.size]? = w3.heap[w1.heap.size]? := (ht5.grown.block w1.heap.size (by simp; omega) (fun e => hmn (by simpa using e))).trans (heap_alloc_old _ _ g3)
  have Hf05 := hid ((World.cell?_of_block (a := ⟨w1.heap.size, 0, none⟩) hbk).trans Hf0.out)
  have Hf15 := hid ((World.cell?_of_block (a := ⟨w1.heap.size, 1, none⟩) hbk).trans Hf1.out)
  have c2' := (H1.out.ext hE4).files
  clear hM5 ht5 hbk hE4
  go_wp2_with fail
  clear hrun hlk c2 c2'
  apply wp_drawn_last 6 [isV _, isV _, isV _, isV _, isV _, isV _] (by decide) (by kernel_rfl)
  · kernel_rfl
  · kernel_rfl
  · refine ⟨?r10s0, ?r10s1, ?r10s2, ?r10s3, ?r10s4, ?r10s5, trivial⟩
    case r10s0 =>
      intro v W hE hd; simp only [Region.wanted, ↓reduceIte]; (try simp [deps, waitsOn, Region.binds, knowing, isV, ownsV, anyV] at hd); simp only [putAll, List.take_succ_cons, List.take_zero, List.drop_succ_cons, List.drop_zero, Act.put, List.setIfInBounds_toArray, List.set_cons_zero, List.set_cons_succ, Nat.zero_add, Nat.reduceAdd]; go_simp; exact ⟨Below.refl _ _, rfl⟩
    case r10s1 =>
      intro v W hE hd; simp only [Region.wanted, ↓reduceIte]; (try simp [deps, waitsOn, Region.binds, knowing, isV, ownsV, anyV] at hd); simp only [putAll, List.take_succ_cons, List.take_zero, List.drop_succ_cons, List.drop_zero, Act.put, List.setIfInBounds_toArray, List.set_cons_zero, List.set_cons_succ, Nat.zero_add, Nat.reduceAdd]; go_simp; exact ⟨Below.refl _ _, rfl⟩
    case r10s2 =>
      intro v W hE hd; simp only [Region.wanted, ↓reduceIte]; (try simp [deps, waitsOn, Region.binds, knowing, isV, ownsV, anyV] at hd); simp only [putAll, List.take_succ_cons, List.take_zero, List.drop_succ_cons, List.drop_zero, Act.put, List.setIfInBounds_toArray, List.set_cons_zero, List.set_cons_succ, Nat.zero_add, Nat.reduceAdd]; go_simp; exact ⟨Below.refl _ _, rfl⟩
    case r10s3 =>
      intro v W hE hd; simp only [Region.wanted, ↓reduceIte]; (try simp [deps, waitsOn, Region.binds, knowing, isV, ownsV, anyV] at hd); simp only [putAll, List.take_succ_cons, List.take_zero, List.drop_succ_cons, List.drop_zero, Act.put, List.setIfInBounds_toArray, List.set_cons_zero, List.set_cons_succ, Nat.zero_add, Nat.reduceAdd]
      have e1 := cell_below hE HD5.out.files
      go_simp
      exact ⟨Below.refl _ _, rfl⟩
    case r10s4 =>
      intro v W hE hd; simp only [Region.wanted, ↓reduceIte]; (try simp [deps, waitsOn, Region.binds, knowing, isV, ownsV, anyV] at hd); simp only [putAll, List.take_succ_cons, List.take_zero, List.drop_succ_cons, List.drop_zero, Act.put, List.setIfInBounds_toArray, List.set_cons_zero, List.set_cons_succ, Nat.zero_add, Nat.reduceAdd]; go_simp; exact ⟨Below.refl _ _, rfl⟩
    case r10s5 =>
      intro v W hE hd; simp only [Region.wanted, ↓reduceIte]; (try simp [deps, waitsOn, Region.binds, knowing, isV, ownsV, anyV] at hd); simp only [putAll, List.take_succ_cons, List.take_zero, List.drop_succ_cons, List.drop_zero, Act.put, List.setIfInBounds_toArray, List.set_cons_zero, List.set_cons_succ, Nat.zero_add, Nat.reduceAdd]
      have e1 := cell_below hE Hf05.out
      have e2 := cell_below hE Hf15.out
      go_simp
      exact ⟨Below.refl _ _, rfl⟩
  · rintro v W hE ⟨-, -, -, e3, e4, e5, -⟩
    have e3 := (show v 3 = _ from e3)
    have e4 := (show v 4 = _ from e4)
    have e5 := (show v 5 = _ from e5)
    simp only [putAll, List.take_succ_cons, List.take_zero, List.drop_succ_cons, List.drop_zero, Act.put, List.setIfInBounds_toArray, List.set_cons_zero, List.set_cons_succ, Nat.zero_add, Nat.reduceAdd]
    have HFV := hid (show FileV W S (.agg #[.slice A n c, .int .i64 (f.safe : Int)]) f from ⟨A, c, by rw [← Hnn.out], by rw [← Hnn.out]; exact hc, hcm, by rw [← Hnn.out]; exact hs, by rw [← Hnn.out]; exact hb64, RS.kept Hr.out (HK5.out.trans (Kept2.of_ext hE)) H.out.own H.out.ownM⟩)
    rw [e3, e4, e5]
    have HD6 := hid (HD5.out.ext hE)
    have HM6 := hid (HM5.out.ext hE)
    have HK6 := hid (HK5.out.trans (Kept2.of_ext hE))
    have HH6 := hid ((HH.out.kept HK6.out H.out.own H.out.ownM).del na)
    obtain ⟨w7, hrun, hM7, ht7⟩ := HM6.out.store nb (.agg #[.slice A n c, .int .i64 (f.safe : Int)]) rfl hnb (by have := HH6.out.length; have h2 := length_delF_le na F; have := H.out.few; omega)
    have HM7 := hid hM7; have Ht7 := hid ht7.grown
    clear e3 e4 e5 hM7 ht7 hE
    go_wp2
    go_ret
    have hk := Kept2.of_grown (d := d) Ht7.out (.inr rfl)
    refine ⟨by rw [E3.out]; rfl, H.out.after (HD6.out.of_block (Ht7.out.block d HD6.out.lt (fun e => H.out.ne (by simpa using e)))) ⟨_, HM7.out, by rw [E4.out]; exact (HH6.out.put HFV.out).kept hk H.out.own H.out.ownM⟩ (HK6.out.trans hk) ?_ (burnL_range H.out.lr), HK6.out.trans hk⟩
    rw [E4.out]
    have h1 := length_delF_there H.out.up A1.out
    have h2 := length_putF_le nb f (delF na F)
    have := H.out.few
    omega
end Go.Proofs.YtpipmkaljkhgiaaDoor
