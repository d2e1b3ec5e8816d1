/- theodoliteref1's Of, Valid, Cmp, Sign of 1 and 0, second part. -/
import Derived.Test.YtodeddappmfphaaGreatDoorRfb
namespace Go.Proofs.YtodeddappmfphaaGreatDoor
open Go.RowKit Go.Thd

set_option maxRecDepth 100000 in
theorem rOf_one (w : World) : Calls Tryz.prog 31 #[.int .i64 1, .int .i64 1] w
    (Ret w fun v w' => ∃ a c a' c', v = .agg #[.bool false, .slice a 1 c, .slice a' 1 c'] ∧ L1 w' a c ∧ L1 w' a' c') := by
  go_enter Tryz.func31, Tryz.ntmps31
  go_wp2_with fail
  obtain ⟨W, hW⟩ : ∃ W, w.alloc (.cells #[.bool false, .slice none 0 0, .slice none 0 0] 44) = W := ⟨_, rfl⟩
  have hR : Res W w.heap.size [.bool false, .slice none 0 0, .slice none 0 0] := by rw [← hW]; exact Res.made w [.bool false, .slice none 0 0, .slice none 0 0] _
  have hB : Below w.heap.size w W := by rw [← hW]; exact (Below.refl _ _).alloc (Nat.le_refl _) _
  rw [hW]
  have HB := Lib.hid hB
  have HR := Lib.hid hR
  have HZ := Lib.hid hR.1
  clear hW hB hR
  refine (rofInt_one _).mono ?_
  rintro e w1 ⟨v, rfl, hb, a1, c1, rfl, h1, hF1⟩
  have H1 := Lib.hid h1
  have HB1 := Lib.hid (HB.out.trans (hb.mono HB.out.size))
  have HR1 := Lib.hid (HR.out.mono hb)
  clear h1 hF1 hb
  go_wp2_with fail
  refine (rofInt_one _).mono ?_
  rintro e w2 ⟨v, rfl, hb, a2, c2, rfl, h2, hF2⟩
  have H2 := Lib.hid h2
  have H12 := Lib.hid (H1.out.mono hb)
  have HB2 := Lib.hid (HB1.out.trans (hb.mono HB1.out.size))
  have HR2 := Lib.hid (HR1.out.mono hb)
  clear h2 hF2 hb
  go_wp2_with fail
  refine (rnew_one _ _ _ _ _ H12.out H2.out).mono ?_
  rintro e w3 ⟨v, rfl, hb, a3, c3, a4, c4, rfl, h3, h4, hF3, hF4⟩
  have H3 := Lib.hid h3
  have H4 := Lib.hid h4
  have HF3 := Lib.hid (hF3.ne HR2.out.1)
  have HF4 := Lib.hid (hF4.ne HR2.out.1)
  have HB3 := Lib.hid (HB2.out.trans (hb.mono HB2.out.size))
  have hz4 := HB3.out.size
  obtain ⟨hz, hcs, hf⟩ := HR2.out.mono hb
  have d0 := hcs 0 _ rfl
  have d1 := hcs 1 _ rfl
  have d2 := hcs 2 _ rfl
  clear h3 h4 hF3 hF4 hb hcs
  go_wp2_with fail
  obtain ⟨X, hX⟩ : ∃ X, ((w3.setCell ⟨w.heap.size, 0, none⟩ (.bool false)).setCell ⟨w.heap.size, 1, none⟩ (.slice a3 1 c3)).setCell ⟨w.heap.size, 2, none⟩ (.slice a4 1 c4) = X := ⟨_, rfl⟩
  have hXs : w.heap.size < X.heap.size := by rw [← hX]; simpa [World.setCell] using hz
  have hXs4 : w.heap.size ≤ X.heap.size := Nat.le_of_lt hXs
  have k0 : X.cell? ⟨w.heap.size, 0, none⟩ = some (.bool false) := by rw [← hX]; simp [go_sem, d0, d1, d2]
  have k1 : X.cell? ⟨w.heap.size, 1, none⟩ = some (.slice a3 1 c3) := by rw [← hX]; simp [go_sem, d0, d1, d2]
  have k2 : X.cell? ⟨w.heap.size, 2, none⟩ = some (.slice a4 1 c4) := by rw [← hX]; simp [go_sem, d0, d1, d2]
  have HBX : Below w.heap.size w X := by rw [← hX]; exact ((HB3.out.setCell (Nat.le_refl _) _).setCell (Nat.le_refl _) _).setCell (Nat.le_refl _) _
  have HA : ∀ {a : Option Addr} {c : Nat}, L1 w3 a c → (∀ p, a = some p → p.block ≠ w.heap.size) → ∀ o, L1 (X.alloc o) a c :=
    fun h hn o => by rw [← hX]; exact (((h.set hn _ _).set hn _ _).set hn _ _).mono ((Below.refl _ _).alloc (Nat.le_refl _) _)
  have hAc := fun o => bcell ((Below.refl X.heap.size X).alloc (Nat.le_refl _) o)
  rw [hX]
  clear hX d0 d1 d2
  refine bodyPost_ret (v := .agg #[.bool false, .slice a3 1 c3, .slice a4 1 c4]) (by simp [results, Tryz.results31, go_sem, (hAc _).1 _ _ hXs, k0, k1, k2]) rfl
    ⟨_, rfl, HBX.alloc hXs4 _, a3, c3, a4, c4, rfl, HA H3.out HF3.out _, HA H4.out HF4.out _⟩

set_option maxRecDepth 100000 in
theorem rOf_zero (w : World) : Calls Tryz.prog 31 #[.int .i64 0, .int .i64 1] w
    (Ret w fun v w' => ∃ a c a' c', v = .agg #[.bool false, .slice a 0 c, .slice a' 1 c'] ∧ L1 w' a' c') := by
  go_enter Tryz.func31, Tryz.ntmps31
  go_wp2_with fail
  obtain ⟨W, hW⟩ : ∃ W, w.alloc (.cells #[.bool false, .slice none 0 0, .slice none 0 0] 44) = W := ⟨_, rfl⟩
  have hR : Res W w.heap.size [.bool false, .slice none 0 0, .slice none 0 0] := by rw [← hW]; exact Res.made w [.bool false, .slice none 0 0, .slice none 0 0] _
  have hB : Below w.heap.size w W := by rw [← hW]; exact (Below.refl _ _).alloc (Nat.le_refl _) _
  rw [hW]
  have HB := Lib.hid hB
  have HR := Lib.hid hR
  have HZ := Lib.hid hR.1
  clear hW hB hR
  refine (rofInt_zero _).mono ?_
  rintro e w1 ⟨v, rfl, hb, a1, c1, rfl⟩
  have HB1 := Lib.hid (HB.out.trans (hb.mono HB.out.size))
  have HR1 := Lib.hid (HR.out.mono hb)
  clear hb
  go_wp2_with fail
  refine (rofInt_one _).mono ?_
  rintro e w2 ⟨v, rfl, hb, a2, c2, rfl, h2, hF2⟩
  have H2 := Lib.hid h2
  have HB2 := Lib.hid (HB1.out.trans (hb.mono HB1.out.size))
  have HR2 := Lib.hid (HR1.out.mono hb)
  clear h2 hF2 hb
  go_wp2_with fail
  refine (rnew_zero _ _ _ _ _ H2.out).mono ?_
  rintro e w3 ⟨v, rfl, hb, a3, c3, a4, c4, rfl, h4, hF4⟩
  have H4 := Lib.hid h4
  have HF4 := Lib.hid (hF4.ne HR2.out.1)
  have HB3 := Lib.hid (HB2.out.trans (hb.mono HB2.out.size))
  have hz4 := HB3.out.size
  obtain ⟨hz, hcs, hf⟩ := HR2.out.mono hb
  have d0 := hcs 0 _ rfl
  have d1 := hcs 1 _ rfl
  have d2 := hcs 2 _ rfl
  clear h4 hF4 hb hcs
  go_wp2_with fail
  obtain ⟨X, hX⟩ : ∃ X, ((w3.setCell ⟨w.heap.size, 0, none⟩ (.bool false)).setCell ⟨w.heap.size, 1, none⟩ (.slice a3 0 c3)).setCell ⟨w.heap.size, 2, none⟩ (.slice a4 1 c4) = X := ⟨_, rfl⟩
  have hXs : w.heap.size < X.heap.size := by rw [← hX]; simpa [World.setCell] using hz
  have hXs4 : w.heap.size ≤ X.heap.size := Nat.le_of_lt hXs
  have k0 : X.cell? ⟨w.heap.size, 0, none⟩ = some (.bool false) := by rw [← hX]; simp [go_sem, d0, d1, d2]
  have k1 : X.cell? ⟨w.heap.size, 1, none⟩ = some (.slice a3 0 c3) := by rw [← hX]; simp [go_sem, d0, d1, d2]
  have k2 : X.cell? ⟨w.heap.size, 2, none⟩ = some (.slice a4 1 c4) := by rw [← hX]; simp [go_sem, d0, d1, d2]
  have HBX : Below w.heap.size w X := by rw [← hX]; exact ((HB3.out.setCell (Nat.le_refl _) _).setCell (Nat.le_refl _) _).setCell (Nat.le_refl _) _
  have HA : ∀ {a : Option Addr} {c : Nat}, L1 w3 a c → (∀ p, a = some p → p.block ≠ w.heap.size) → ∀ o, L1 (X.alloc o) a c :=
    fun h hn o => by rw [← hX]; exact (((h.set hn _ _).set hn _ _).set hn _ _).mono ((Below.refl _ _).alloc (Nat.le_refl _) _)
  have hAc := fun o => bcell ((Below.refl X.heap.size X).alloc (Nat.le_refl _) o)
  rw [hX]
  clear hX d0 d1 d2
  refine bodyPost_ret (v := .agg #[.bool false, .slice a3 0 c3, .slice a4 1 c4]) (by simp [results, Tryz.results31, go_sem, (hAc _).1 _ _ hXs, k0, k1, k2]) rfl
    ⟨_, rfl, HBX.alloc hXs4 _, a3, c3, a4, c4, rfl, HA H4.out HF4.out _⟩


set_option maxRecDepth 100000 in
theorem rvalid_one (w : World) (a a' : Option Addr) (c c' : Nat) (h : L1 w a c) (h' : L1 w a' c') : Calls Tryz.prog 103 #[.agg #[.bool false, .slice a 1 c, .slice a' 1 c']] w (Ret w fun v _ => v = .bool true) := by
  have H := Lib.hid h
  have H' := Lib.hid h'
  clear h h'
  go_enter Tryz.func103, Tryz.ntmps103
  go_wp2_with fail
  have HB := Lib.hid ((Below.refl w.heap.size w).alloc (Nat.le_refl _) (.cells #[.bool false, .slice a 1 c, .slice a' 1 c'] 44))
  refine (rvalidNat_one _ _ _ (H.out.mono HB.out)).mono ?_
  rintro e w1 ⟨v, rfl, rfl, rfl⟩
  go_wp2_with fail
  refine (rvalidNat_one _ _ _ (H'.out.mono HB.out)).mono ?_
  rintro e w1 ⟨v, rfl, rfl, rfl⟩
  go_wp2_with fail
  refine (rgcd_one _ _ _ _ _ (H.out.mono HB.out) (H'.out.mono HB.out)).mono ?_
  rintro e w1 ⟨v, rfl, hb, ag, cg, rfl, hg⟩
  have HG := Lib.hid hg
  have HB1 := Lib.hid (HB.out.trans (hb.mono (by simp)))
  clear hg hb
  go_wp2_with fail
  refine (rone _).mono ?_
  rintro e w2 ⟨v, rfl, hb, ao, co, rfl, ho⟩
  rw [nl_one]
  have HO := Lib.hid ho
  have HG2 := Lib.hid (HG.out.mono hb)
  have HB2 := Lib.hid (HB1.out.trans (hb.mono HB1.out.size))
  clear ho hb
  go_wp2_with fail
  refine (cmp_q _ _ _ _ _ _ _ 1 1 nl_one.symm nl_one.symm HG2.out.num HO.out (by rw [nl_one]; omega) 0 (by decide)).mono ?_
  rintro e w3 ⟨v, rfl, hb, rfl⟩
  have HB3 := Lib.hid (HB2.out.trans (hb.mono HB2.out.size))
  clear hb
  go_wp2_with fail
  go_ret
  exact ⟨_, rfl, HB3.out, rfl⟩

set_option maxRecDepth 100000 in
theorem rvalid_zero (w : World) (a a' : Option Addr) (c c' : Nat) (h' : L1 w a' c') : Calls Tryz.prog 103 #[.agg #[.bool false, .slice a 0 c, .slice a' 1 c']] w (Ret w fun v _ => v = .bool true) := by
  have H' := Lib.hid h'
  clear h'
  go_enter Tryz.func103, Tryz.ntmps103
  go_wp2_with fail
  have HB := Lib.hid ((Below.refl w.heap.size w).alloc (Nat.le_refl _) (.cells #[.bool false, .slice a 0 c, .slice a' 1 c'] 44))
  refine (rvalidNat_zero _ _ _).mono ?_
  rintro e w1 ⟨v, rfl, rfl, rfl⟩
  go_wp2_with fail
  refine (rvalidNat_one _ _ _ (H'.out.mono HB.out)).mono ?_
  rintro e w1 ⟨v, rfl, rfl, rfl⟩
  go_wp2_with fail
  refine (rgcd_zero _ _ _ _ _ (H'.out.mono HB.out)).mono ?_
  rintro e w1 ⟨v, rfl, hb, ag, cg, rfl, hg⟩
  have HG := Lib.hid hg
  have HB1 := Lib.hid (HB.out.trans (hb.mono (by simp)))
  clear hg hb
  go_wp2_with fail
  refine (rone _).mono ?_
  rintro e w2 ⟨v, rfl, hb, ao, co, rfl, ho⟩
  rw [nl_one]
  have HO := Lib.hid ho
  have HG2 := Lib.hid (HG.out.mono hb)
  have HB2 := Lib.hid (HB1.out.trans (hb.mono HB1.out.size))
  clear ho hb
  go_wp2_with fail
  refine (cmp_q _ _ _ _ _ _ _ 1 1 nl_one.symm nl_one.symm HG2.out.num HO.out (by rw [nl_one]; omega) 0 (by decide)).mono ?_
  rintro e w3 ⟨v, rfl, hb, rfl⟩
  have HB3 := Lib.hid (HB2.out.trans (hb.mono HB2.out.size))
  clear hb
  go_wp2_with fail
  go_ret
  exact ⟨_, rfl, HB3.out, rfl⟩

set_option maxRecDepth 100000 in
theorem rmul_zero (w : World) (a a' : Option Addr) (c c' : Nat) : Calls Tryz.prog 128 #[.slice a 0 c, .slice a' 1 c'] w (Ret w fun v _ => ∃ a c, v = .slice a 0 c) := by
  have hmk := fun w : World => make64 1 1 rfl w (by omega)
  go_enter Tryz.func128, Tryz.ntmps128
  go_wp2_with fail
  have hO := Own.made w (.int .u64 0) 1 107
  have HB := Lib.hid ((Below.refl w.heap.size w).alloc (Nat.le_refl _) (.cells (madeCells #[.int .u64 0] 1) 107))
  have HO := Lib.hid hO
  clear hmk hO
  refine wp_loop_rounds 1 ?_
  rw [rounds_succ]
  go_wp2_with fail
  refine (rtrim_num (fun _ => 0) _ w.heap.size 0 1 1 (by omega) (by omega) (fun i hi => by
    rw [Nat.zero_add]
    exact HO.out.2.1 i hi) (fun i _ => B64_pos) 0 (by simp [val])).mono ?_
  rintro e w6 ⟨v, rfl, hb6, a6, c6, rfl, hN, _⟩
  rw [nl_zero]
  have HB6 := Lib.hid (HB.out.trans (hb6.mono (by simp)))
  clear hb6 hN
  go_wp2_with fail
  go_ret
  exact ⟨_, rfl, HB6.out, a6, c6, rfl⟩
end Go.Proofs.YtodeddappmfphaaGreatDoor
