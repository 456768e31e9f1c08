/- The law FoldLoads. -/
import Derived.Test.YtpmmapcjohmniaaDefAt
namespace Go.Proofs.Ytpmmapcjohmniaa
open Go Go.RowKit
set_option linter.unusedSimpArgs false
set_option linter.unusedVariables false

theorem SlR.grow' {α : Type} {R : Rep α} {w wx : World} {A : Option Addr} {n c : Nat} {xs : List α} (h : SlR R wx (· < w.heap.size) A n c xs) (hs : w.heap.size ≤ wx.heap.size) : SlR R wx (· < wx.heap.size) A n c xs := h.mono fun _ hk => Nat.lt_of_lt_of_le hk hs
set_option maxRecDepth 100000 in
set_option maxHeartbeats 4000000 in
theorem foldLoads_in (kd : Int) (fd : Str) (A : Option Addr) (n c : Nat) (q : List ClV) (A1 : Option Addr) (n1 c1 : Nat) (l : Ents) (A2 : Option Addr) (n2 c2 : Nat) (r : Ents) (w : World) (hkd : I64 kd) (hfd : Short fd) (hq : SlR RCl w (· < w.heap.size) A n c q) (hl : SlR REntI w (· < w.heap.size) A1 n1 c1 l) (hr : SlR REntI w (· < w.heap.size) A2 n2 c2 r) :
    Calls Try.prog 7 #[.agg #[.int .i64 kd, .string (str fd), .slice A n c], .slice A1 n1 c1, .slice A2 n2 c2] w fun e w' => e = .returned (.bool true) ∧ Below w.heap.size w w' := by
  obtain ⟨d, rfl, rfl, rfl⟩ : ∃ d : DefV, kd = d.kind ∧ fd = d.field ∧ q = d.q := ⟨⟨kd, fd, q⟩, rfl, rfl, rfl⟩
  have hn := hid hq.1
  have hnc := hq.2.1
  have hcm := hq.2.2.1
  have Hq := hid (show SlR RCl w (· < w.heap.size) A d.q.length c d.q by have := hq; rw [hq.1] at this; exact this)
  have Hl := hid (slR_such hl); have Hr := hid (slR_such hr)
  clear hq hl hr hkd hfd
  go_enter Try.func7, Try.ntmps7
  have HE0 := hid (ext_alloc w (.cells #[.int .i64 d.kind, .string (str d.field), .slice A n c] 33))
  have Hbx := hid (show DefBox w.heap.size d A n c (w.alloc (.cells #[.int .i64 d.kind, .string (str d.field), .slice A n c] 33)) from heap_alloc_last _ _)
  go_wp2_with fail
  refine (shown_at _).mono ?_
  rintro e w0 ⟨rfl, hE0⟩
  have HE1 := hid (HE0.out.trans' hE0)
  have Hb1 := hid (Hbx.out.ext hE0)
  clear hE0
  obtain ⟨b0, b1, b2⟩ := Hb1.out.cells
  have fz := Hb1.out.free 2
  go_upto_if 18 with (fail)
  go_cut [7] (fun h wx => h = .bool true ∧ Hid (DefAt w (cut8 d) A c wx))
  case first =>
    by_cases h8 : 8 < n
    · have h8' : (8 : Int) < (n : Int) := by omega
      have HD := hid (DefAt.long (by rw [← hn.out]; exact Hb1.out) Hq.out HE1.out (by have := hn.out; omega))
      have g8 : (8 : Int) ≤ (c : Int) := by omega
      go_wp2_with fail
      go_meet
      case rel => exact ⟨rfl, HD⟩
    · have h8' : ¬ ((8 : Int) < (n : Int)) := by omega
      have HD := hid (DefAt.short (by rw [← hn.out]; exact Hb1.out) Hq.out HE1.out (by have := hn.out; omega))
      go_wp2_with fail
      go_meet
      case rel => exact ⟨rfl, HD⟩
  case rest =>
  obtain ⟨rfl, HD⟩ := hcut
  clear HE0 Hbx HE1 Hb1 b0 b1 b2 fz
  obtain ⟨d0, d1, d2⟩ := HD.out.box.cells
  have Hq8 := hid (HD.out.q.grow' HD.out.ext.size)
  generalize hd8 : cut8 d = d8 at *
  clear hd8
  generalize hn8 : d8.q.length = n8 at d2 Hq8
  clear hn8
  go_wp2_with fail
  have hnew := foldNew_at (d := d8) Hq8.out
  unfold defVal at hnew
  refine hnew.mono ?_
  clear hnew d0 d1 d2
  rintro e w2 ⟨hEb, hres⟩
  have HEs := hid hEb
  clear hEb
  rcases hres with ⟨hne, rfl⟩ | ⟨Hok, s, m, rfl, hss, hms, hN⟩
  · generalize mayDef d8 = me at hne
    have hneb : (me != 0) = true := by simpa using hne
    have hneb2 : (me == 0) = false := by simpa using hne
    (go_wp2; go_ret; exact ⟨rfl, HD.out.ext.trans' HEs.out⟩)
  have HNs := hid hN
  have HOK := hid Hok
  clear hN Hok
  have HE2 := hid (HD.out.ext.trans' HEs.out)
  have HS := hid (HNs.out.is (S := fun k => k = s ∨ k = m) (fun k hk => .inr hk) (.inl rfl) (.inr rfl))
  have Hsz := hid HD.out.ext.size
  clear HNs HD Hq8
  replace hss := Nat.le_trans Hsz.out hss
  replace hms := Nat.le_trans Hsz.out hms
  go_wp2_with fail
  refine (lawEntries_at (Hl.out.1.ext fun k hk => HE2.out.block k hk)).mono ?_
  rintro e w3 ⟨n1', c1', rfl, hl1, rfl⟩
  have HL1 := hid hl1
  clear hl1
  go_wp2_with fail
  refine (lawEntries_at (Hr.out.1.ext fun k hk => HE2.out.block k hk)).mono ?_
  rintro e w4 ⟨n2', c2', rfl, hl2, rfl⟩
  have HL2 := hid hl2
  clear hl2
  have Hil := hid (show ∀ p ∈ firstE l, I64 p.2 from fun p hp => Hl.out.2 p (List.mem_of_mem_take hp))
  have Hir := hid (show ∀ p ∈ firstE r, I64 p.2 from fun p hp => Hr.out.2 p (List.mem_of_mem_take hp))
  have hll : (firstE l).length < 1000000 := by unfold firstE; rw [List.length_take]; omega
  have hlr : (firstE r).length < 1000000 := by unfold firstE; rw [List.length_take]; omega
  generalize firstE l = fl at *
  generalize firstE r = fr at *
  clear Hl Hr
  go_wp2_with fail
  have HEa := hid (ext_alloc w4 (.cells #[] 53))
  have HSa := hid (HS.out.ext HEa.out)
  have HS0 := hid (show ∀ k, k < w.heap.size → ¬ (k = s ∨ k = m) from fun k hk h => by have := hss; have := hms; rcases h with h | h <;> omega)
  have HL1a := hid (show SlR REnt (w4.alloc (.cells #[] 53)) (Out (fun k => k = s ∨ k = m) (w4.alloc (.cells #[] 53))) A1 n1' c1' fl from
    (HL1.out.ext fun k hk => HEa.out.block k (Nat.lt_of_lt_of_le hk HE2.out.size)).mono fun k hk => ⟨Nat.lt_of_lt_of_le hk (Nat.le_trans HE2.out.size HEa.out.size), HS0.out k hk⟩)
  refine (load_at HSa.out HL1a.out hll Hil.out).mono ?_
  rintro e w5 ⟨rfl, ⟨m1, hm1, hS1⟩, hK1⟩
  have HS1 := hid hS1
  have HE5 := hid (HE2.out.trans ((HEa.out.mono HE2.out.size).trans (hK1.below (by omega) (by omega) (Nat.le_trans HE2.out.size HEa.out.size))))
  have HE45 := hid ((HEa.out.mono HE2.out.size).trans (hK1.below (by omega) (by omega) (Nat.le_trans HE2.out.size HEa.out.size)))
  have HSm1 := hid (show ∀ k, k < w.heap.size → ¬ ((k = s ∨ k = m) ∨ k = m1) from fun k hk h => by
    have := hss; have := hms; have := HE2.out.size; have := HEa.out.size
    rcases h with (h | h) | h <;> omega)
  have HL2a := hid (show SlR REnt w5 (Out (fun k => (k = s ∨ k = m) ∨ k = m1) w5) A2 n2' c2' fr from
    (HL2.out.ext fun k hk => ((HEa.out.mono HE2.out.size).trans (hK1.below (by omega) (by omega) (Nat.le_trans HE2.out.size HEa.out.size))).block k hk).mono fun k hk => ⟨Nat.lt_of_lt_of_le hk HE5.out.size, HSm1.out k hk⟩)
  clear hS1 hK1 hm1
  cases hok1 : okE d8 fl
  · rw [loadE_no hok1]
    rw [loadF_no hok1] at HS1
    go_wp2_with fail
    refine (load_at HS1.out HL2a.out hlr Hir.out).mono ?_
    rintro e w6 ⟨rfl, ⟨m2, hm2, hS2⟩, hK2⟩
    have HS2 := hid hS2
    have HE56 := hid (hK2.below (B := w.heap.size) (by omega) (by omega) HE5.out.size)
    have HE6 := hid (HE5.out.trans HE56.out)
    have HL1b := hid (show SlR REnt w6 (· < w.heap.size) A1 n1' c1' fl from HL1.out.ext fun k hk => (HE45.out.trans HE56.out).block k hk)
    have HL2b := hid (show SlR REnt w6 (· < w.heap.size) A2 n2' c2' fr from HL2.out.ext fun k hk => (HE45.out.trans HE56.out).block k hk)
    clear hS2 hK2 hm2
    cases hok2 : okE d8 fr
    · rw [loadE_no hok2]
      rw [loadF_no hok2] at HS2
      go_wp2_with fail
      refine (entries_at HS2.out (by first | exact hlr | exact hll | decide)).mono ?_
      rintro e w7 ⟨u, rfl, hO, hE7⟩
      obtain ⟨A7, c7, cs7, rfl, ho1, ho2, ho3, ho4⟩ := hO.read
      have HR7 := hid (show SlR REnt w7 (fun _ => True) A7 (([] : Ents)).length c7 ([] : Ents) from ⟨rfl, ho1, ho2, cs7, ho3.mono fun _ h => h.elim, by
        rcases ho4 with h | ⟨b, o, e, h⟩
        · exact .inl h
        · exact .inr ⟨b, o, e, trivial, h⟩⟩)
      have HE7 := hid (HE6.out.trans (hE7.mono HE6.out.size))
      have hW := (show SlR REnt w6 (· < w.heap.size) (some ⟨w4.heap.size, 0, none⟩) 0 0 ([] : Ents) from ⟨rfl, Nat.le_refl _, by decide, [], rfl, .inl rfl⟩)
      have HW := hid (hW.ext fun k hk => hE7.block k (Nat.lt_of_lt_of_le hk HE6.out.size))
      clear hO hE7 ho1 ho2 ho3 ho4 hW
      generalize (([] : Ents)).length = ln at HR7
      go_wp2_with fail
      have hsm := same_at HR7.out HW.out
      rw [decide_eq_true (show ([] : Ents) = ([] : Ents) from rfl)] at hsm
      refine hsm.mono ?_
      clear hsm
      rintro e w8 ⟨rfl, hE8⟩
      have HE8 := hid (HE7.out.trans (hE8.mono HE7.out.size))
      clear hE8
      go_wp2
      go_ret
      exact ⟨rfl, HE8.out⟩
    · rw [loadE_ok hok2]
      rw [loadF_ok hok2] at HS2
      go_wp2_with fail
      refine (entries_at HS2.out (by first | exact hlr | exact hll | decide)).mono ?_
      rintro e w7 ⟨u, rfl, hO, hE7⟩
      obtain ⟨A7, c7, cs7, rfl, ho1, ho2, ho3, ho4⟩ := hO.read
      have HR7 := hid (show SlR REnt w7 (fun _ => True) A7 (fr).length c7 fr from ⟨rfl, ho1, ho2, cs7, ho3.mono fun _ h => h.elim, by
        rcases ho4 with h | ⟨b, o, e, h⟩
        · exact .inl h
        · exact .inr ⟨b, o, e, trivial, h⟩⟩)
      have HE7 := hid (HE6.out.trans (hE7.mono HE6.out.size))
      have hW := (show SlR REnt w6 (· < w.heap.size) A2 n2' c2' fr from HL2b.out)
      have HW := hid (hW.ext fun k hk => hE7.block k (Nat.lt_of_lt_of_le hk HE6.out.size))
      clear hO hE7 ho1 ho2 ho3 ho4 hW
      generalize (fr).length = ln at HR7
      go_wp2_with fail
      have hsm := same_at HR7.out HW.out
      rw [decide_eq_true (show fr = fr from rfl)] at hsm
      refine hsm.mono ?_
      clear hsm
      rintro e w8 ⟨rfl, hE8⟩
      have HE8 := hid (HE7.out.trans (hE8.mono HE7.out.size))
      clear hE8
      go_wp2
      go_ret
      exact ⟨rfl, HE8.out⟩
  · rw [loadE_ok hok1]
    rw [loadF_ok hok1] at HS1
    go_wp2_with fail
    refine (load_at HS1.out HL2a.out hlr Hir.out).mono ?_
    rintro e w6 ⟨rfl, ⟨m2, hm2, hS2⟩, hK2⟩
    have HS2 := hid hS2
    have HE56 := hid (hK2.below (B := w.heap.size) (by omega) (by omega) HE5.out.size)
    have HE6 := hid (HE5.out.trans HE56.out)
    have HL1b := hid (show SlR REnt w6 (· < w.heap.size) A1 n1' c1' fl from HL1.out.ext fun k hk => (HE45.out.trans HE56.out).block k hk)
    have HL2b := hid (show SlR REnt w6 (· < w.heap.size) A2 n2' c2' fr from HL2.out.ext fun k hk => (HE45.out.trans HE56.out).block k hk)
    clear hS2 hK2 hm2
    cases hok2 : okE d8 fr
    · rw [loadE_no hok2]
      rw [loadF_no hok2] at HS2
      go_wp2_with fail
      refine (entries_at HS2.out (by first | exact hlr | exact hll | decide)).mono ?_
      rintro e w7 ⟨u, rfl, hO, hE7⟩
      obtain ⟨A7, c7, cs7, rfl, ho1, ho2, ho3, ho4⟩ := hO.read
      have HR7 := hid (show SlR REnt w7 (fun _ => True) A7 (fl).length c7 fl from ⟨rfl, ho1, ho2, cs7, ho3.mono fun _ h => h.elim, by
        rcases ho4 with h | ⟨b, o, e, h⟩
        · exact .inl h
        · exact .inr ⟨b, o, e, trivial, h⟩⟩)
      have HE7 := hid (HE6.out.trans (hE7.mono HE6.out.size))
      have hW := (show SlR REnt w6 (· < w.heap.size) A1 n1' c1' fl from HL1b.out)
      have HW := hid (hW.ext fun k hk => hE7.block k (Nat.lt_of_lt_of_le hk HE6.out.size))
      clear hO hE7 ho1 ho2 ho3 ho4 hW
      generalize (fl).length = ln at HR7
      go_wp2_with fail
      have hsm := same_at HR7.out HW.out
      rw [decide_eq_true (show fl = fl from rfl)] at hsm
      refine hsm.mono ?_
      clear hsm
      rintro e w8 ⟨rfl, hE8⟩
      have HE8 := hid (HE7.out.trans (hE8.mono HE7.out.size))
      clear hE8
      go_wp2
      go_ret
      exact ⟨rfl, HE8.out⟩
    · rw [loadE_ok hok2]
      rw [loadF_ok hok2] at HS2
      go_wp2_with fail
      refine (entries_at HS2.out (by first | exact hlr | exact hll | decide)).mono ?_
      rintro e w7 ⟨u, rfl, hO, hE7⟩
      obtain ⟨A7, c7, cs7, rfl, ho1, ho2, ho3, ho4⟩ := hO.read
      have HR7 := hid (show SlR REnt w7 (fun _ => True) A7 (fr).length c7 fr from ⟨rfl, ho1, ho2, cs7, ho3.mono fun _ h => h.elim, by
        rcases ho4 with h | ⟨b, o, e, h⟩
        · exact .inl h
        · exact .inr ⟨b, o, e, trivial, h⟩⟩)
      have HE7 := hid (HE6.out.trans (hE7.mono HE6.out.size))
      have hW := (show SlR REnt w6 (· < w.heap.size) A2 n2' c2' fr from HL2b.out)
      have HW := hid (hW.ext fun k hk => hE7.block k (Nat.lt_of_lt_of_le hk HE6.out.size))
      clear hO hE7 ho1 ho2 ho3 ho4 hW
      generalize (fr).length = ln at HR7
      go_wp2_with fail
      have hsm := same_at HR7.out HW.out
      rw [decide_eq_true (show fr = fr from rfl)] at hsm
      refine hsm.mono ?_
      clear hsm
      rintro e w8 ⟨rfl, hE8⟩
      have HE8 := hid (HE7.out.trans (hE8.mono HE7.out.size))
      clear hE8
      go_wp2
      go_ret
      exact ⟨rfl, HE8.out⟩
end Go.Proofs.Ytpmmapcjohmniaa
