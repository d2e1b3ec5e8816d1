/- theodoliteref1's Of, Valid, Cmp, Sign of 1 and 0. -/
import Derived.Test.YtodeddappmfphaaGreatDoorRfa
namespace Go.Thd
open Go.RowKit
/-- The result's cells, as they were made. -/
def Res (w : World) (b : Nat) (vs : List Value) : Prop := b < w.heap.size ∧ (∀ i v, vs[i]? = some v → w.cell? ⟨b, i, none⟩ = some v) ∧ ∀ i, w.frozen? ⟨b, i, none⟩ = false
theorem Res.mono {w w' : World} {b : Nat} {vs : List Value} (h : Res w b vs) (hb : Below w.heap.size w w') : Res w' b vs :=
  ⟨Nat.lt_of_lt_of_le h.1 hb.size, fun i v hv => (hb.cell (p := ⟨b, i, none⟩) h.1).trans (h.2.1 i v hv), fun i => (hb.frozen (p := ⟨b, i, none⟩) h.1).trans (h.2.2 i)⟩
theorem Res.made (w : World) (cs : List Value) (e : TypeId) : Res (w.alloc (.cells cs.toArray e)) w.heap.size cs := by
  have hh := heap_alloc_new w (.cells cs.toArray e)
  refine ⟨by simp, fun i v hv => ?_, fun i => ?_⟩
  · simp only [World.cell?, hh]
    simpa using hv
  · simp only [World.frozen?, hh]
    simp
theorem Res.at {w : World} {cs : List Value} {e : TypeId} {b : Nat} (hb : w.heap.size = b) : Res (w.alloc (.cells cs.toArray e)) b cs := hb ▸ Res.made w cs e
theorem Res.alloc {w : World} {b : Nat} {vs : List Value} (h : Res w b vs) (o : Obj) : Res (w.alloc o) b vs := h.mono ((Below.refl _ _).alloc (Nat.le_refl _) _)
theorem L1.set {w : World} {a : Option Addr} {c : Nat} (h : L1 w a c) {b : Nat} (hb : ∀ p, a = some p → p.block ≠ b) (o : Nat) (v : Value) : L1 (w.setCell ⟨b, o, none⟩ v) a c := by
  obtain ⟨h1, b', o', rfl, h2, h3⟩ := h
  refine ⟨h1, b', o', rfl, by simpa [World.setCell] using h2, ?_⟩
  exact (World.cell?_of_block (w := w) (a := ⟨b', o', none⟩) (Below.heap_setCell _ _ _ _ (hb _ rfl))).trans h3
theorem Fresh.ne {w : World} {a : Option Addr} (h : Fresh w a) {b : Nat} (hb : b < w.heap.size) : ∀ p, a = some p → p.block ≠ b := fun p hp => by have := h p hp; omega
end Go.Thd
namespace Go.Proofs.YtodeddappmfphaaGreatDoor
open Go.RowKit Go.Thd

theorem rtrim_one (w : World) (a : Option Addr) (c : Nat) (h : L1 w a c) : Calls Tryz.prog 125 #[.slice a 1 c] w (Ret w fun v w' => ∃ a c, v = .slice a 1 c ∧ L1 w' a c ∧ Fresh w a) := by
  obtain ⟨h1, b, o, rfl, h2, h3⟩ := h
  refine (rtrim_num (fun _ => 1) w b o 1 c (by omega) h1 (fun i hi => by
    obtain rfl : i = 0 := by omega
    exact h3) (fun i _ => B64_gt) 1 (by simp [val])).mono ?_
  rintro e w1 ⟨v, rfl, hb, a, c, rfl, hN, hF⟩
  rw [nl_one]
  exact ⟨_, rfl, hb, a, c, rfl, L1.of hN, hF⟩

set_option maxRecDepth 100000 in
theorem rofInt_one (w : World) : Calls Tryz.prog 72 #[.int .i64 1] w (Ret w fun v w' => ∃ a c, v = .agg #[.bool false, .slice a 1 c] ∧ L1 w' a c ∧ Fresh w a) := by
  go_enter Tryz.func72, Tryz.ntmps72
  go_wp2_with fail
  obtain ⟨W, hW⟩ : ∃ W, ((w.alloc (.cells #[.bool false, .slice none 0 0] 136)).alloc (.cells #[.int .u64 1] 107)) = W := ⟨_, rfl⟩
  have hc : W.cell? ⟨w.heap.size + 1, 0, none⟩ = some (.int .u64 1) := by rw [← hW]; simp [go_sem]
  have hR : Res W w.heap.size [.bool false, .slice none 0 0] := by rw [← hW]; exact (Res.made w [.bool false, .slice none 0 0] _).alloc _
  have hB : Below w.heap.size w W := by rw [← hW]; exact ((Below.refl _ _).alloc (Nat.le_refl _) _).alloc (by simp) _
  rw [hW]
  have HB := Lib.hid hB
  have HR := Lib.hid hR
  clear hW hB hR
  refine (rtrim_num (fun _ => 1) _ (w.heap.size + 1) 0 1 1 (by omega) (by omega) (fun i hi => by
    obtain rfl : i = 0 := by omega
    exact hc) (fun i _ => B64_gt) 1 (by simp [val])).mono ?_
  rintro e w1 ⟨v, rfl, hb, a, c, rfl, hN, hF⟩
  rw [nl_one]
  have HF := Lib.hid hF
  have HZ := Lib.hid HR.out.1
  have HL := Lib.hid (L1.of hN)
  have HR1 := Lib.hid (HR.out.mono hb)
  have HB1 := Lib.hid (HB.out.trans (hb.mono HB.out.size))
  clear hN hb hc hF
  go_wp2_with fail
  refine (rwhole _ _ _ _).mono ?_
  rintro e w2 ⟨v, rfl, hb, rfl⟩
  have HL2 := Lib.hid (HL.out.mono hb)
  have HB2 := Lib.hid (HB1.out.trans (hb.mono HB1.out.size))
  obtain ⟨hz, hcs, hf⟩ := HR1.out.mono hb
  have d0 := hcs 0 _ rfl
  have d1 := hcs 1 _ rfl
  clear hb hcs
  go_wp2_with fail
  have HB3 : Below w.heap.size w ((w2.setCell ⟨w.heap.size, 0, none⟩ (.bool false)).setCell ⟨w.heap.size, 1, none⟩ (.slice a 1 c)) := (HB2.out.setCell (Nat.le_refl _) _).setCell (Nat.le_refl _) _
  refine bodyPost_ret (v := .agg #[.bool false, .slice a 1 c]) (by simp [results, Tryz.results72, go_sem, d0, d1]) rfl ⟨_, rfl, HB3, a, c, rfl, ?_⟩
  exact ⟨(HL2.out.set (HF.out.ne HZ.out) _ _).set (HF.out.ne HZ.out) _ _, HF.out.of HB.out.size⟩

set_option maxRecDepth 100000 in
theorem rofInt_zero (w : World) : Calls Tryz.prog 72 #[.int .i64 0] w (Ret w fun v _ => ∃ a c, v = .agg #[.bool false, .slice a 0 c]) := by
  go_enter Tryz.func72, Tryz.ntmps72
  go_wp2_with fail
  obtain ⟨W, hW⟩ : ∃ W, ((w.alloc (.cells #[.bool false, .slice none 0 0] 136)).alloc (.cells #[.int .u64 0] 107)) = W := ⟨_, rfl⟩
  have hc : W.cell? ⟨w.heap.size + 1, 0, none⟩ = some (.int .u64 0) := by rw [← hW]; simp [go_sem]
  have hR : Res W w.heap.size [.bool false, .slice none 0 0] := by rw [← hW]; exact (Res.made w [.bool false, .slice none 0 0] _).alloc _
  have hB : Below w.heap.size w W := by rw [← hW]; exact ((Below.refl _ _).alloc (Nat.le_refl _) _).alloc (by simp) _
  rw [hW]
  have HB := Lib.hid hB
  have HR := Lib.hid hR
  clear hW hB hR
  refine (rtrim_num (fun _ => 0) _ (w.heap.size + 1) 0 1 1 (by omega) (by omega) (fun i hi => by
    obtain rfl : i = 0 := by omega
    exact hc) (fun i _ => B64_pos) 0 (by simp [val])).mono ?_
  rintro e w1 ⟨v, rfl, hb, a, c, rfl, hN, hF⟩
  rw [nl_zero]
  have HR1 := Lib.hid (HR.out.mono hb)
  have HB1 := Lib.hid (HB.out.trans (hb.mono HB.out.size))
  clear hN hb hc hF
  go_wp2_with fail
  refine (rwhole _ _ _ _).mono ?_
  rintro e w2 ⟨v, rfl, hb, rfl⟩
  have HB2 := Lib.hid (HB1.out.trans (hb.mono HB1.out.size))
  obtain ⟨hz, hcs, hf⟩ := HR1.out.mono hb
  have d0 := hcs 0 _ rfl
  have d1 := hcs 1 _ rfl
  clear hb hcs
  go_wp2_with fail
  have HB3 : Below w.heap.size w ((w2.setCell ⟨w.heap.size, 0, none⟩ (.bool false)).setCell ⟨w.heap.size, 1, none⟩ (.slice a 0 c)) := (HB2.out.setCell (Nat.le_refl _) _).setCell (Nat.le_refl _) _
  exact bodyPost_ret (v := .agg #[.bool false, .slice a 0 c]) (by simp [results, Tryz.results72, go_sem, d0, d1]) rfl ⟨_, rfl, HB3, a, c, rfl⟩

theorem rvalidNat_zero (w : World) (a : Option Addr) (c : Nat) : Calls Tryz.prog 145 #[.slice a 0 c] w (RetS w fun v => v = .bool true) := by
  go_enter Tryz.func145, Tryz.ntmps145
  go_wp2_with fail
  go_ret
  exact ⟨_, rfl, rfl, rfl⟩

theorem rvalidNat_one (w : World) (a : Option Addr) (c : Nat) (h : L1 w a c) : Calls Tryz.prog 145 #[.slice a 1 c] w (RetS w fun v => v = .bool true) := by
  obtain ⟨h1, b, o, rfl, h2, h3⟩ := h
  go_enter Tryz.func145, Tryz.ntmps145
  go_wp2_with fail
  go_ret
  exact ⟨_, rfl, rfl, rfl⟩

theorem rvalidInt_zero (w : World) (a : Option Addr) (c : Nat) : Calls Tryz.prog 122 #[.agg #[.bool false, .slice a 0 c]] w (Ret w fun v _ => v = .bool true) := by
  go_enter Tryz.func122, Tryz.ntmps122
  go_wp2_with fail
  refine (rvalidNat_zero _ _ _).mono ?_
  rintro e w1 ⟨v, rfl, rfl, rfl⟩
  go_wp2_with fail
  go_ret
  exact ⟨_, rfl, (Below.refl _ _).alloc (Nat.le_refl _) _, rfl⟩

theorem rvalidInt_one (w : World) (a : Option Addr) (c : Nat) (h : L1 w a c) : Calls Tryz.prog 122 #[.agg #[.bool false, .slice a 1 c]] w (Ret w fun v _ => v = .bool true) := by
  have H := Lib.hid h
  clear h
  go_enter Tryz.func122, Tryz.ntmps122
  go_wp2_with fail
  refine (rvalidNat_one _ _ _ (H.out.mono ((Below.refl _ _).alloc (Nat.le_refl _) _))).mono ?_
  rintro e w1 ⟨v, rfl, rfl, rfl⟩
  go_wp2_with fail
  go_ret
  exact ⟨_, rfl, (Below.refl _ _).alloc (Nat.le_refl _) _, rfl⟩

set_option maxRecDepth 100000 in
theorem rmade_one (w : World) (a a' : Option Addr) (c c' : Nat) (h : L1 w a c) (h' : L1 w a' c') : Calls Tryz.prog 123 #[.bool false, .slice a 1 c, .slice a' 1 c'] w
    (Ret w fun v w' => ∃ a c a' c', v = .agg #[.bool false, .slice a 1 c, .slice a' 1 c'] ∧ L1 w' a c ∧ L1 w' a' c' ∧ Fresh w a ∧ Fresh w a') := by
  have H := Lib.hid h
  have H' := Lib.hid h'
  clear h h'
  go_enter Tryz.func123, Tryz.ntmps123
  go_wp2_with fail
  obtain ⟨W, hW⟩ : ∃ W, w.alloc (.cells #[.bool false, .slice none 0 0, .slice none 0 0] 44) = W := ⟨_, rfl⟩
  have hR : Res W w.heap.size [.bool false, .slice none 0 0, .slice none 0 0] := by rw [← hW]; exact Res.made w [.bool false, .slice none 0 0, .slice none 0 0] _
  have hB : Below w.heap.size w W := by rw [← hW]; exact (Below.refl _ _).alloc (Nat.le_refl _) _
  rw [hW]
  have HB := Lib.hid hB
  have HR := Lib.hid hR
  have HZ := Lib.hid hR.1
  clear hW hB hR
  refine (rgcd_one _ _ _ _ _ (H.out.mono HB.out) (H'.out.mono HB.out)).mono ?_
  rintro e w1 ⟨v, rfl, hb, ag, cg, rfl, hg⟩
  have HG := Lib.hid hg
  have HB1 := Lib.hid (HB.out.trans (hb.mono HB.out.size))
  have HR1 := Lib.hid (HR.out.mono hb)
  have HS1 := Lib.hid hb.size
  clear hg hb
  go_wp2_with fail
  refine (rdiv_one _ _ _ _ _ (H.out.mono HB1.out) HG.out).mono ?_
  rintro e w2 ⟨v, rfl, hb, ap, cp, ap2, cp2, rfl, hp⟩
  have HP := Lib.hid hp
  have HG2 := Lib.hid (HG.out.mono hb)
  have HB2 := Lib.hid (HB1.out.trans (hb.mono HB1.out.size))
  have HR2 := Lib.hid (HR1.out.mono hb)
  have HS2 := Lib.hid (Nat.le_trans HS1.out hb.size)
  clear hp hb
  go_wp2_with fail
  refine (rdiv_one _ _ _ _ _ (H'.out.mono HB2.out) HG2.out).mono ?_
  rintro e w3 ⟨v, rfl, hb, aq, cq, aq2, cq2, rfl, hq⟩
  have HQ := Lib.hid hq
  have HP3 := Lib.hid (HP.out.mono hb)
  have HB3 := Lib.hid (HB2.out.trans (hb.mono HB2.out.size))
  have HR3 := Lib.hid (HR2.out.mono hb)
  have HS3 := Lib.hid (Nat.le_trans HS2.out hb.size)
  clear hq hb
  go_wp2_with fail
  refine (rtrim_one _ _ _ HP3.out).mono ?_
  rintro e w4 ⟨v, rfl, hb, a4, c4, rfl, h4, hF4⟩
  have H4 := Lib.hid h4
  have HF4 := Lib.hid (hF4.of HS3.out)
  have HQ4 := Lib.hid (HQ.out.mono hb)
  have HB4 := Lib.hid (HB3.out.trans (hb.mono HB3.out.size))
  have HR4 := Lib.hid (HR3.out.mono hb)
  have HS4 := Lib.hid (Nat.le_trans HS3.out hb.size)
  clear h4 hb hF4
  go_wp2_with fail
  refine (rtrim_one _ _ _ HQ4.out).mono ?_
  rintro e w5 ⟨v, rfl, hb, a5, c5, rfl, h5, hF5⟩
  have H5 := Lib.hid h5
  have H45 := Lib.hid (H4.out.mono hb)
  have HF5 := Lib.hid (hF5.of HS4.out)
  have HB5 := Lib.hid (HB4.out.trans (hb.mono HB4.out.size))
  obtain ⟨hz, hcs, hf⟩ := HR4.out.mono hb
  have d0 := hcs 0 _ rfl
  have d1 := hcs 1 _ rfl
  have d2 := hcs 2 _ rfl
  clear h5 hb hcs hF5
  go_wp2_with fail
  have HB6 : Below w.heap.size w (((w5.setCell ⟨w.heap.size, 0, none⟩ (.bool false)).setCell ⟨w.heap.size, 1, none⟩ (.slice a4 1 c4)).setCell ⟨w.heap.size, 2, none⟩ (.slice a5 1 c5)) := ((HB5.out.setCell (Nat.le_refl _) _).setCell (Nat.le_refl _) _).setCell (Nat.le_refl _) _
  exact bodyPost_ret (v := .agg #[.bool false, .slice a4 1 c4, .slice a5 1 c5]) (by simp [results, Tryz.results123, go_sem, d0, d1, d2]) rfl
    ⟨_, rfl, HB6, a4, c4, a5, c5, rfl, ((H45.out.set (HF4.out.ne HZ.out) _ _).set (HF4.out.ne HZ.out) _ _).set (HF4.out.ne HZ.out) _ _, ((H5.out.set (HF5.out.ne HZ.out) _ _).set (HF5.out.ne HZ.out) _ _).set (HF5.out.ne HZ.out) _ _, HF4.out.of HB.out.size, HF5.out.of HB.out.size⟩
set_option maxRecDepth 100000 in
theorem rmade_zero (w : World) (a a' : Option Addr) (c c' : Nat) (h' : L1 w a' c') : Calls Tryz.prog 123 #[.bool false, .slice a 0 c, .slice a' 1 c'] w
    (Ret w fun v w' => ∃ a c a' c', v = .agg #[.bool false, .slice a 0 c, .slice a' 1 c'] ∧ L1 w' a' c' ∧ Fresh w a') := by
  have H' := Lib.hid h'
  clear h'
  go_enter Tryz.func123, Tryz.ntmps123
  go_wp2_with fail
  obtain ⟨W, hW⟩ : ∃ W, w.alloc (.cells #[.bool false, .slice none 0 0, .slice none 0 0] 44) = W := ⟨_, rfl⟩
  have hR : Res W w.heap.size [.bool false, .slice none 0 0, .slice none 0 0] := by rw [← hW]; exact Res.made w [.bool false, .slice none 0 0, .slice none 0 0] _
  have hB : Below w.heap.size w W := by rw [← hW]; exact (Below.refl _ _).alloc (Nat.le_refl _) _
  rw [hW]
  have HB := Lib.hid hB
  have HR := Lib.hid hR
  have HZ := Lib.hid hR.1
  clear hW hB hR
  refine (rgcd_zero _ _ _ _ _ (H'.out.mono HB.out)).mono ?_
  rintro e w1 ⟨v, rfl, hb, ag, cg, rfl, hg⟩
  have HG := Lib.hid hg
  have HB1 := Lib.hid (HB.out.trans (hb.mono HB.out.size))
  have HR1 := Lib.hid (HR.out.mono hb)
  have HS1 := Lib.hid hb.size
  clear hg hb
  go_wp2_with fail
  refine (rdiv_zero _ _ _ _ _ HG.out).mono ?_
  rintro e w2 ⟨v, rfl, hb, rfl⟩
  have HG2 := Lib.hid (HG.out.mono hb)
  have HB2 := Lib.hid (HB1.out.trans (hb.mono HB1.out.size))
  have HR2 := Lib.hid (HR1.out.mono hb)
  have HS2 := Lib.hid (Nat.le_trans HS1.out hb.size)
  clear hb
  go_wp2_with fail
  refine (rdiv_one _ _ _ _ _ (H'.out.mono HB2.out) HG2.out).mono ?_
  rintro e w3 ⟨v, rfl, hb, aq, cq, aq2, cq2, rfl, hq⟩
  have HQ := Lib.hid hq
  have HB3 := Lib.hid (HB2.out.trans (hb.mono HB2.out.size))
  have HR3 := Lib.hid (HR2.out.mono hb)
  have HS3 := Lib.hid (Nat.le_trans HS2.out hb.size)
  clear hq hb
  go_wp2_with fail
  refine (rtrim_nil _).mono ?_
  rintro e w4 ⟨v, rfl, hb, a4, c4, rfl⟩
  have HQ4 := Lib.hid (HQ.out.mono hb)
  have HB4 := Lib.hid (HB3.out.trans (hb.mono HB3.out.size))
  have HR4 := Lib.hid (HR3.out.mono hb)
  have HS4 := Lib.hid (Nat.le_trans HS3.out hb.size)
  clear hb
  go_wp2_with fail
  refine (rtrim_one _ _ _ HQ4.out).mono ?_
  rintro e w5 ⟨v, rfl, hb, a5, c5, rfl, h5, hF5⟩
  have H5 := Lib.hid h5
  have HF5 := Lib.hid (hF5.of HS4.out)
  have HB5 := Lib.hid (HB4.out.trans (hb.mono HB4.out.size))
  obtain ⟨hz, hcs, hf⟩ := HR4.out.mono hb
  have d0 := hcs 0 _ rfl
  have d1 := hcs 1 _ rfl
  have d2 := hcs 2 _ rfl
  clear h5 hb hcs hF5
  go_wp2_with fail
  have HB6 : Below w.heap.size w (((w5.setCell ⟨w.heap.size, 0, none⟩ (.bool false)).setCell ⟨w.heap.size, 1, none⟩ (.slice a4 0 c4)).setCell ⟨w.heap.size, 2, none⟩ (.slice a5 1 c5)) := ((HB5.out.setCell (Nat.le_refl _) _).setCell (Nat.le_refl _) _).setCell (Nat.le_refl _) _
  exact bodyPost_ret (v := .agg #[.bool false, .slice a4 0 c4, .slice a5 1 c5]) (by simp [results, Tryz.results123, go_sem, d0, d1, d2]) rfl
    ⟨_, rfl, HB6, a4, c4, a5, c5, rfl, ((H5.out.set (HF5.out.ne HZ.out) _ _).set (HF5.out.ne HZ.out) _ _).set (HF5.out.ne HZ.out) _ _, HF5.out.of HB.out.size⟩

set_option maxRecDepth 100000 in
theorem rnew_one (w : World) (a a' : Option Addr) (c c' : Nat) (h : L1 w a c) (h' : L1 w a' c') : Calls Tryz.prog 71 #[.agg #[.bool false, .slice a 1 c], .agg #[.bool false, .slice a' 1 c']] w
    (Ret w fun v w' => ∃ a c a' c', v = .tuple #[.agg #[.bool false, .slice a 1 c, .slice a' 1 c'], .int .i64 0] ∧ L1 w' a c ∧ L1 w' a' c' ∧ Fresh w a ∧ Fresh w a') := by
  have H := Lib.hid h
  have H' := Lib.hid h'
  clear h h'
  go_enter Tryz.func71, Tryz.ntmps71
  go_wp2_with fail
  obtain ⟨W, hW⟩ : ∃ W, ((w.alloc (.cells #[.bool false, .slice a 1 c] 136)).alloc (.cells #[.bool false, .slice a' 1 c'] 136)).alloc (.cells #[.bool false, .slice none 0 0, .slice none 0 0] 44) = W := ⟨_, rfl⟩
  have hR : Res W (w.heap.size + 2) [.bool false, .slice none 0 0, .slice none 0 0] := by
    rw [← hW]; exact Res.at (cs := [.bool false, .slice none 0 0, .slice none 0 0]) (by simp)
  have hR0 : Res W w.heap.size [.bool false, .slice a 1 c] := by
    rw [← hW]; exact ((Res.made w [.bool false, .slice a 1 c] _).alloc _).alloc _
  have hR1 : Res W (w.heap.size + 1) [.bool false, .slice a' 1 c'] := by
    rw [← hW]; exact (Res.at (cs := [.bool false, .slice a' 1 c']) (by simp)).alloc _
  have hB : Below w.heap.size w W := by rw [← hW]; exact (((Below.refl _ _).alloc (Nat.le_refl _) _).alloc (by simp) _).alloc (by simp; omega) _
  rw [hW]
  have HB := Lib.hid hB
  have HR := Lib.hid hR
  have HR0 := Lib.hid hR0
  have HR1 := Lib.hid hR1
  clear hW hB hR hR0 hR1
  refine (rvalidInt_one _ _ _ (H.out.mono HB.out)).mono ?_
  rintro e w1 ⟨v, rfl, hb, rfl⟩
  have HB' := Lib.hid (HB.out.trans (hb.mono HB.out.size))
  have HQ := Lib.hid (HR.out.mono hb)
  have HQ0 := Lib.hid (HR0.out.mono hb)
  have HQ1 := Lib.hid (HR1.out.mono hb)
  clear hb HB HR HR0 HR1
  have d0 := HQ1.out.2.1 0 _ rfl
  have d1 := HQ1.out.2.1 1 _ rfl
  go_wp2_with fail
  refine (rvalidInt_one _ _ _ (H'.out.mono HB'.out)).mono ?_
  rintro e w2 ⟨v, rfl, hb, rfl⟩
  have HB := Lib.hid (HB'.out.trans (hb.mono HB'.out.size))
  have HR := Lib.hid (HQ.out.mono hb)
  have HZ := Lib.hid (HQ.out.mono hb).1
  obtain ⟨_, e0, _⟩ := HQ0.out.mono hb
  obtain ⟨_, e1, _⟩ := HQ1.out.mono hb
  have e00 := e0 0 _ rfl
  have e01 := e0 1 _ rfl
  have e10 := e1 0 _ rfl
  have e11 := e1 1 _ rfl
  clear hb HB' HQ HQ0 HQ1 d0 d1 e0 e1
  go_wp2_with fail
  refine (rmade_one _ _ _ _ _ (H.out.mono HB.out) (H'.out.mono HB.out)).mono ?_
  rintro e w3 ⟨v, rfl, hb, a3, c3, a4, c4, rfl, h3, h4, hF3, hF4⟩
  have H3 := Lib.hid h3
  have H4 := Lib.hid h4
  have HF3 := Lib.hid hF3
  have HF4 := Lib.hid hF4
  have HB3 := Lib.hid (HB.out.trans (hb.mono HB.out.size))
  obtain ⟨hz, hcs, hf⟩ := HR.out.mono hb
  have d0 := hcs 0 _ rfl
  have d1 := hcs 1 _ rfl
  have d2 := hcs 2 _ rfl
  clear h3 h4 hF3 hF4 hb hcs e00 e01 e10 e11
  go_wp2_with fail
  have HB6 : Below w.heap.size w (((w3.setCell ⟨w.heap.size + 2, 0, none⟩ (.bool false)).setCell ⟨w.heap.size + 2, 1, none⟩ (.slice a3 1 c3)).setCell ⟨w.heap.size + 2, 2, none⟩ (.slice a4 1 c4)) := ((HB3.out.setCell (by simp) _).setCell (by simp) _).setCell (by simp) _
  exact bodyPost_ret (v := .tuple #[.agg #[.bool false, .slice a3 1 c3, .slice a4 1 c4], .int .i64 0]) (by simp [results, Tryz.results71, go_sem, d0, d1, d2]) rfl
    ⟨_, rfl, HB6, a3, c3, a4, c4, rfl, ((H3.out.set (HF3.out.ne HZ.out) _ _).set (HF3.out.ne HZ.out) _ _).set (HF3.out.ne HZ.out) _ _, ((H4.out.set (HF4.out.ne HZ.out) _ _).set (HF4.out.ne HZ.out) _ _).set (HF4.out.ne HZ.out) _ _, HF3.out.of HB.out.size, HF4.out.of HB.out.size⟩
set_option maxRecDepth 100000 in
theorem rnew_zero (w : World) (a a' : Option Addr) (c c' : Nat) (h' : L1 w a' c') : Calls Tryz.prog 71 #[.agg #[.bool false, .slice a 0 c], .agg #[.bool false, .slice a' 1 c']] w
    (Ret w fun v w' => ∃ a c a' c', v = .tuple #[.agg #[.bool false, .slice a 0 c, .slice a' 1 c'], .int .i64 0] ∧ L1 w' a' c' ∧ Fresh w a') := by
  have H' := Lib.hid h'
  clear h'
  go_enter Tryz.func71, Tryz.ntmps71
  go_wp2_with fail
  obtain ⟨W, hW⟩ : ∃ W, ((w.alloc (.cells #[.bool false, .slice a 0 c] 136)).alloc (.cells #[.bool false, .slice a' 1 c'] 136)).alloc (.cells #[.bool false, .slice none 0 0, .slice none 0 0] 44) = W := ⟨_, rfl⟩
  have hR : Res W (w.heap.size + 2) [.bool false, .slice none 0 0, .slice none 0 0] := by
    rw [← hW]; exact Res.at (cs := [.bool false, .slice none 0 0, .slice none 0 0]) (by simp)
  have hR0 : Res W w.heap.size [.bool false, .slice a 0 c] := by
    rw [← hW]; exact ((Res.made w [.bool false, .slice a 0 c] _).alloc _).alloc _
  have hR1 : Res W (w.heap.size + 1) [.bool false, .slice a' 1 c'] := by
    rw [← hW]; exact (Res.at (cs := [.bool false, .slice a' 1 c']) (by simp)).alloc _
  have hB : Below w.heap.size w W := by rw [← hW]; exact (((Below.refl _ _).alloc (Nat.le_refl _) _).alloc (by simp) _).alloc (by simp; omega) _
  rw [hW]
  have HB := Lib.hid hB
  have HR := Lib.hid hR
  have HR0 := Lib.hid hR0
  have HR1 := Lib.hid hR1
  clear hW hB hR hR0 hR1
  refine (rvalidInt_zero _ _ _).mono ?_
  rintro e w1 ⟨v, rfl, hb, rfl⟩
  have HB' := Lib.hid (HB.out.trans (hb.mono HB.out.size))
  have HQ := Lib.hid (HR.out.mono hb)
  have HQ0 := Lib.hid (HR0.out.mono hb)
  have HQ1 := Lib.hid (HR1.out.mono hb)
  clear hb HB HR HR0 HR1
  have d0 := HQ1.out.2.1 0 _ rfl
  have d1 := HQ1.out.2.1 1 _ rfl
  go_wp2_with fail
  refine (rvalidInt_one _ _ _ (H'.out.mono HB'.out)).mono ?_
  rintro e w2 ⟨v, rfl, hb, rfl⟩
  have HB := Lib.hid (HB'.out.trans (hb.mono HB'.out.size))
  have HR := Lib.hid (HQ.out.mono hb)
  have HZ := Lib.hid (HQ.out.mono hb).1
  obtain ⟨_, e0, _⟩ := HQ0.out.mono hb
  obtain ⟨_, e1, _⟩ := HQ1.out.mono hb
  have e00 := e0 0 _ rfl
  have e01 := e0 1 _ rfl
  have e10 := e1 0 _ rfl
  have e11 := e1 1 _ rfl
  clear hb HB' HQ HQ0 HQ1 d0 d1 e0 e1
  go_wp2_with fail
  refine (rmade_zero _ _ _ _ _ (H'.out.mono HB.out)).mono ?_
  rintro e w3 ⟨v, rfl, hb, a3, c3, a4, c4, rfl, h4, hF4⟩
  have H4 := Lib.hid h4
  have HF4 := Lib.hid hF4
  have HB3 := Lib.hid (HB.out.trans (hb.mono HB.out.size))
  obtain ⟨hz, hcs, hf⟩ := HR.out.mono hb
  have d0 := hcs 0 _ rfl
  have d1 := hcs 1 _ rfl
  have d2 := hcs 2 _ rfl
  clear h4 hF4 hb hcs e00 e01 e10 e11
  go_wp2_with fail
  have HB6 : Below w.heap.size w (((w3.setCell ⟨w.heap.size + 2, 0, none⟩ (.bool false)).setCell ⟨w.heap.size + 2, 1, none⟩ (.slice a3 0 c3)).setCell ⟨w.heap.size + 2, 2, none⟩ (.slice a4 1 c4)) := ((HB3.out.setCell (by simp) _).setCell (by simp) _).setCell (by simp) _
  exact bodyPost_ret (v := .tuple #[.agg #[.bool false, .slice a3 0 c3, .slice a4 1 c4], .int .i64 0]) (by simp [results, Tryz.results71, go_sem, d0, d1, d2]) rfl
    ⟨_, rfl, HB6, a3, c3, a4, c4, rfl, ((H4.out.set (HF4.out.ne HZ.out) _ _).set (HF4.out.ne HZ.out) _ _).set (HF4.out.ne HZ.out) _ _, HF4.out.of HB.out.size⟩
end Go.Proofs.YtodeddappmfphaaGreatDoor
