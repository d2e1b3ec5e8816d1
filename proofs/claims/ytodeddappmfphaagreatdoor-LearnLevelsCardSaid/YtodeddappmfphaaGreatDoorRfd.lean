/- theodoliteref1's mul, cmpRat, Cmp, Sign of 1 and 0. -/
import Derived.Test.YtodeddappmfphaaGreatDoorRfc
import Derived.Test.YtodeddappmfphaaGreatDoorReg
namespace Go.Proofs.YtodeddappmfphaaGreatDoor
open Go.RowKit Go.Thd

theorem mul_q (w : World) (x : Nat) : Calls Tryz.prog 168 #[.int .u64 1, .int .u64 1] (w.drewN x) fun e w' => e = .returned (.tuple #[.int .u64 0, .int .u64 1]) ∧ ∃ m, w' = w.drewN m :=
  (mul64n 1 1 0 1 B64_gt B64_gt (by decide) (by decide) (w.drewN x)).mono fun e w' ⟨he, hw⟩ => ⟨he, x, hw.symm⟩

set_option maxRecDepth 100000 in
theorem rmul_one (w : World) (a a' : Option Addr) (c c' : Nat) (h : L1 w a c) (h' : L1 w a' c') : Calls Tryz.prog 128 #[.slice a 1 c, .slice a' 1 c'] w (Ret w fun v w' => ∃ a c, v = .slice a 1 c ∧ L1 w' a c) := by
  have hmk := fun w : World => make64 2 2 rfl w (by omega)
  obtain ⟨h1, b, o, rfl, h2, h3⟩ := h
  obtain ⟨h1', b', o', rfl, h2', h3'⟩ := h'
  go_enter Tryz.func128, Tryz.ntmps128
  go_wp2_with fail
  obtain ⟨W, hW⟩ : ∃ W, w.alloc (.cells (madeCells #[.int .u64 0] 2) 107) = W := ⟨_, rfl⟩
  have hB : Below w.heap.size w W := by rw [← hW]; exact (Below.refl _ _).alloc (Nat.le_refl _) _
  have hO : Own W w.heap.size 2 (fun _ => .int .u64 0) := by rw [← hW]; exact Own.made w (.int .u64 0) 2 107
  have c1 : W.cell? ⟨b, o, none⟩ = some (.int .u64 1) := (hB.cell (p := ⟨b, o, none⟩) h2).trans h3
  have c2 : W.cell? ⟨b', o', none⟩ = some (.int .u64 1) := (hB.cell (p := ⟨b', o', none⟩) h2').trans h3'
  have d0 : W.cell? ⟨w.heap.size, 0, none⟩ = some (.int .u64 0) := hO.2.1 0 (by omega)
  have d1 : W.cell? ⟨w.heap.size, 1, none⟩ = some (.int .u64 0) := hO.2.1 1 (by omega)
  have df : ∀ o, W.frozen? ⟨w.heap.size, o, none⟩ = false := hO.2.2
  rw [hW]
  have HB := Lib.hid hB
  clear hmk hW hB hO h3 h3'
  refine wp_loop_rounds 2 ?_
  rw [rounds_succ]
  go_wp2_with fail
  refine wp_loop_rounds 2 ?_
  rw [rounds_succ]
  go_wp2_with fail
  have ha1 := fun w => add64n 0 1 0 0 1 0 1 0 rfl rfl rfl (by omega) (by decide) (by decide) w
  have ha2 := fun w => add64n 1 0 0 1 0 0 1 0 rfl rfl rfl (by omega) (by decide) (by decide) w
  go_quiet ((go_at_call 168; go_must (exact mul_q _ _)))
  go_wp2_with fail
  clear ha1 ha2
  rw [rounds_succ]
  go_wp2_with fail
  rw [rounds_succ]
  go_wp2_with fail
  have e0 : (((W.drewN nq).setCell ⟨w.heap.size, 0, none⟩ (.int .u64 1)).setCell ⟨w.heap.size, 1, none⟩ (.int .u64 0)).cell? ⟨w.heap.size, 0, none⟩ = some (.int .u64 1) := by simp [go_sem, d0, d1]
  have e1 : (((W.drewN nq).setCell ⟨w.heap.size, 0, none⟩ (.int .u64 1)).setCell ⟨w.heap.size, 1, none⟩ (.int .u64 0)).cell? ⟨w.heap.size, 1, none⟩ = some (.int .u64 0) := by simp [go_sem, d0, d1]
  have HB2 : Hid (Below w.heap.size w (((W.drewN nq).setCell ⟨w.heap.size, 0, none⟩ (.int .u64 1)).setCell ⟨w.heap.size, 1, none⟩ (.int .u64 0))) := ((HB.out.drewN nq).setCell (Nat.le_refl _) _).setCell (Nat.le_refl _) _
  refine (rtrim_num (fun i => if i = 0 then 1 else 0) _ w.heap.size 0 2 2 (by omega) (by omega) (fun i hi => by
    match i, hi with
    | 0, _ => exact e0
    | 1, _ => exact e1) (fun i _ => by have := B64_gt; show (if i = 0 then 1 else 0) < B64; split <;> omega) 1 (by simp [val])).mono ?_
  rintro e w3 ⟨v, rfl, hb3, a3, c3, rfl, hN, _⟩
  rw [nl_one]
  have HB3 := Lib.hid (HB2.out.trans (hb3.mono HB2.out.size))
  have HL := Lib.hid (L1.of hN)
  clear hb3 hN e0 e1 d0 d1 c1 c2
  go_wp2_with fail
  go_ret
  exact ⟨_, rfl, HB3.out, a3, c3, rfl, HL.out⟩

theorem rcmpInt (w : World) (a a' : Option Addr) (c c' : Nat) (h : L1 w a c) : Calls Tryz.prog 206 #[.agg #[.bool false, .slice a 1 c], .agg #[.bool false, .slice a' 0 c']] w (Ret w fun v _ => v = .int .i64 1) := by
  have H := Lib.hid h
  clear h
  go_enter Tryz.func206, Tryz.ntmps206
  go_wp2_with fail
  have HB := Lib.hid (((Below.refl w.heap.size w).alloc (Nat.le_refl _) (.cells #[.bool false, .slice a 1 c] 136)).alloc (by simp) (.cells #[.bool false, .slice a' 0 c'] 136))
  refine (cmp_q _ _ _ _ _ _ _ 1 0 nl_one.symm nl_zero.symm (H.out.mono HB.out).num (Num.zero _ _ _) (by rw [nl_one]; omega) 1 (by decide)).mono ?_
  rintro e w1 ⟨v, rfl, hb, rfl⟩
  have HB1 := Lib.hid (HB.out.trans (hb.mono HB.out.size))
  clear hb
  go_wp2_with fail
  go_ret
  exact ⟨_, rfl, HB1.out, rfl⟩

set_option maxRecDepth 100000 in
set_option maxHeartbeats 1000000 in
theorem rcmpRat (w : World) (a a' b b' : Option Addr) (c c' d d' : Nat) (h : L1 w a c) (h' : L1 w a' c') (k' : L1 w b' d') : Calls Tryz.prog 167 #[.agg #[.bool false, .slice a 1 c, .slice a' 1 c'], .agg #[.bool false, .slice b 0 d, .slice b' 1 d']] w
    (Ret w fun v _ => v = .int .i64 1) := by
  have H := Lib.hid h
  have H' := Lib.hid h'
  have K' := Lib.hid k'
  clear h h' k'
  go_enter Tryz.func167, Tryz.ntmps167
  go_wp2_with fail
  obtain ⟨W, hW⟩ : ∃ W, ((w.alloc (.cells #[.bool false, .slice a 1 c, .slice a' 1 c'] 44)).alloc (.cells #[.bool false, .slice b 0 d, .slice b' 1 d'] 44)) = W := ⟨_, rfl⟩
  have hc0_0 : W.cell? ⟨w.heap.size, 0, none⟩ = some (.bool false) := by rw [← hW]; simp [go_sem]
  have hc0_1 : W.cell? ⟨w.heap.size, 1, none⟩ = some (.slice a 1 c) := by rw [← hW]; simp [go_sem]
  have hc0_2 : W.cell? ⟨w.heap.size, 2, none⟩ = some (.slice a' 1 c') := by rw [← hW]; simp [go_sem]
  have hf0 : ∀ o, W.frozen? ⟨w.heap.size, o, none⟩ = false := by intro o; rw [← hW]; simp [go_sem]
  have hz0 : w.heap.size < W.heap.size := by rw [← hW]; simp <;> omega
  have hn0 : w.heap.size ≠ W.heap.size := Nat.ne_of_lt hz0
  have hc1_0 : W.cell? ⟨w.heap.size + 1, 0, none⟩ = some (.bool false) := by rw [← hW]; simp [go_sem]
  have hc1_1 : W.cell? ⟨w.heap.size + 1, 1, none⟩ = some (.slice b 0 d) := by rw [← hW]; simp [go_sem]
  have hc1_2 : W.cell? ⟨w.heap.size + 1, 2, none⟩ = some (.slice b' 1 d') := by rw [← hW]; simp [go_sem]
  have hf1 : ∀ o, W.frozen? ⟨w.heap.size + 1, o, none⟩ = false := by intro o; rw [← hW]; simp [go_sem]
  have hz1 : w.heap.size + 1 < W.heap.size := by rw [← hW]; simp <;> omega
  have hn1 : w.heap.size + 1 ≠ W.heap.size := Nat.ne_of_lt hz1
  have hBW : Below w.heap.size w W := by rw [← hW]; exact ((Below.refl w.heap.size w).alloc (Nat.le_refl _) (.cells #[.bool false, .slice a 1 c, .slice a' 1 c'] 44)).alloc (by simp; try omega) (.cells #[.bool false, .slice b 0 d, .slice b' 1 d'] 44)
  rw [hW]
  clear hW
  have HW := Lib.hid (H.out.mono hBW)
  have HW' := Lib.hid (H'.out.mono hBW)
  have KW' := Lib.hid (K'.out.mono hBW)
  have HBW := Lib.hid hBW
  clear hBW
  refine startD (Below W.heap.size W) (fun j => false) 18 #[false, false, false, false, false, false, false, false, false, false, false, false, false, false, false, false, false, false] (by kernel_rfl) rfl rfl ((Below.refl _ _).drew) (fun hS => ?_)
  refine' takeP 0 17 (some 5) #[true, false, false, false, false, false, false, false, false, false, false, false, false, false, false, false, false, false] (v := _) rfl rfl rfl (by kernel_rfl) (by kernel_rfl) (by kernel_rfl) rfl (fun _ _ _ h => h) rfl hS (fun wz hz => ?y0) ?r0
  case y0 => (go_simp; try with_reducible rfl)
  try simp only [Act.put, List.setIfInBounds_toArray, List.set_cons_zero, List.set_cons_succ]
  refine' takeD 1 16 (some 6) #[true, true, false, false, false, false, false, false, false, false, false, false, false, false, false, false, false, false] (v := _) rfl rfl rfl (by kernel_rfl) (by kernel_rfl) (by kernel_rfl) (by kernel_rfl) (by kernel_rfl) rfl (fun _ _ _ h => h) rfl hS (fun wz hz => ?y1) ?r1
  case y1 => (have hzc := bcell hz; go_simp; try with_reducible rfl)
  try simp only [Act.put, List.setIfInBounds_toArray, List.set_cons_zero, List.set_cons_succ]
  refine' takeP 2 15 (some 7) #[true, true, true, false, false, false, false, false, false, false, false, false, false, false, false, false, false, false] (v := _) rfl rfl rfl (by kernel_rfl) (by kernel_rfl) (by kernel_rfl) rfl (fun _ _ _ h => h) rfl hS (fun wz hz => ?y2) ?r2
  case y2 => (go_simp; try with_reducible rfl)
  try simp only [Act.put, List.setIfInBounds_toArray, List.set_cons_zero, List.set_cons_succ]
  refine' takeD 3 14 (some 8) #[true, true, true, true, false, false, false, false, false, false, false, false, false, false, false, false, false, false] (v := _) rfl rfl rfl (by kernel_rfl) (by kernel_rfl) (by kernel_rfl) (by kernel_rfl) (by kernel_rfl) rfl (fun _ _ _ h => h) rfl hS (fun wz hz => ?y3) ?r3
  case y3 => (have hzc := bcell hz; go_simp; try with_reducible rfl)
  try simp only [Act.put, List.setIfInBounds_toArray, List.set_cons_zero, List.set_cons_succ]
  refine' takeP 4 13 (some 9) #[true, true, true, true, true, false, false, false, false, false, false, false, false, false, false, false, false, false] (v := _) rfl rfl rfl (by kernel_rfl) (by kernel_rfl) (by kernel_rfl) rfl (fun _ _ _ h => h) rfl hS (fun wz hz => ?y4) ?r4
  case y4 => (go_simp; try with_reducible rfl)
  try simp only [Act.put, List.setIfInBounds_toArray, List.set_cons_zero, List.set_cons_succ]
  refine' takeD 5 12 (some 10) #[true, true, true, true, true, true, false, false, false, false, false, false, false, false, false, false, false, false] (v := _) rfl rfl rfl (by kernel_rfl) (by kernel_rfl) (by kernel_rfl) (by kernel_rfl) (by kernel_rfl) rfl (fun _ _ _ h => h) rfl hS (fun wz hz => ?y5) ?r5
  case y5 => (have hzc := bcell hz; go_simp; try with_reducible rfl)
  try simp only [Act.put, List.setIfInBounds_toArray, List.set_cons_zero, List.set_cons_succ]
  refine' takeP 8 11 (some 13) #[true, true, true, true, true, true, false, false, true, false, false, false, false, false, false, false, false, false] (v := _) rfl rfl rfl (by kernel_rfl) (by kernel_rfl) (by kernel_rfl) rfl (fun _ _ _ h => h) rfl hS (fun wz hz => ?y6) ?r6
  case y6 => (go_simp; try with_reducible rfl)
  try simp only [Act.put, List.setIfInBounds_toArray, List.set_cons_zero, List.set_cons_succ]
  refine' takeD 9 10 (some 14) #[true, true, true, true, true, true, false, false, true, true, false, false, false, false, false, false, false, false] (v := _) rfl rfl rfl (by kernel_rfl) (by kernel_rfl) (by kernel_rfl) (by kernel_rfl) (by kernel_rfl) rfl (fun _ _ _ h => h) rfl hS (fun wz hz => ?y7) ?r7
  case y7 => (have hzc := bcell hz; go_simp; try with_reducible rfl)
  try simp only [Act.put, List.setIfInBounds_toArray, List.set_cons_zero, List.set_cons_succ]
  refine' takeP 10 9 (some 15) #[true, true, true, true, true, true, false, false, true, true, true, false, false, false, false, false, false, false] (v := _) rfl rfl rfl (by kernel_rfl) (by kernel_rfl) (by kernel_rfl) rfl (fun _ _ _ h => h) rfl hS (fun wz hz => ?y8) ?r8
  case y8 => (go_simp; try with_reducible rfl)
  try simp only [Act.put, List.setIfInBounds_toArray, List.set_cons_zero, List.set_cons_succ]
  refine' takeD 11 8 (some 16) #[true, true, true, true, true, true, false, false, true, true, true, true, false, false, false, false, false, false] (v := _) rfl rfl rfl (by kernel_rfl) (by kernel_rfl) (by kernel_rfl) (by kernel_rfl) (by kernel_rfl) rfl (fun _ _ _ h => h) rfl hS (fun wz hz => ?y9) ?r9
  case y9 => (have hzc := bcell hz; go_simp; try with_reducible rfl)
  try simp only [Act.put, List.setIfInBounds_toArray, List.set_cons_zero, List.set_cons_succ]
  refine' takeP 12 7 (some 17) #[true, true, true, true, true, true, false, false, true, true, true, true, true, false, false, false, false, false] (v := _) rfl rfl rfl (by kernel_rfl) (by kernel_rfl) (by kernel_rfl) rfl (fun _ _ _ h => h) rfl hS (fun wz hz => ?y10) ?r10
  case y10 => (go_simp; try with_reducible rfl)
  try simp only [Act.put, List.setIfInBounds_toArray, List.set_cons_zero, List.set_cons_succ]
  refine' takeD 13 6 (some 18) #[true, true, true, true, true, true, false, false, true, true, true, true, true, true, false, false, false, false] (v := _) rfl rfl rfl (by kernel_rfl) (by kernel_rfl) (by kernel_rfl) (by kernel_rfl) (by kernel_rfl) rfl (fun _ _ _ h => h) rfl hS (fun wz hz => ?y11) ?r11
  case y11 => (have hzc := bcell hz; go_simp; try with_reducible rfl)
  try simp only [Act.put, List.setIfInBounds_toArray, List.set_cons_zero, List.set_cons_succ]
  refine callD 6 5 (some 11) #[true, true, true, true, true, true, true, false, true, true, true, true, true, true, false, false, false, false] 128 [.slice a 1 c, .slice b' 1 d'] rfl rfl rfl (by kernel_rfl) rfl rfl rfl Tryz.func128 rfl (by kernel_rfl) (rmul_one _ _ _ _ _ (HW.out.mono hS) (KW'.out.mono hS)) ?_
  rintro v w' hb ⟨am, cm, rfl, hm⟩
  replace hS := hS.trans (hb.mono hS.size)
  have HM := Lib.hid hm
  clear hm hb
  refine ⟨hS, ?_⟩
  try simp only [Act.put, List.setIfInBounds_toArray, List.set_cons_zero, List.set_cons_succ]
  refine callD 7 4 (some 12) #[true, true, true, true, true, true, true, true, true, true, true, true, true, true, false, false, false, false] 124 [.bool false, .slice am 1 cm] rfl rfl rfl (by kernel_rfl) rfl rfl rfl Tryz.func124 rfl (by kernel_rfl) (rwhole _ _ _ _) ?_
  rintro v w' hb rfl
  replace hS := hS.trans (hb.mono hS.size)
  replace HM := Lib.hid (HM.out.mono hb)
  clear hb
  refine ⟨hS, ?_⟩
  try simp only [Act.put, List.setIfInBounds_toArray, List.set_cons_zero, List.set_cons_succ]
  refine callD 14 3 (some 19) #[true, true, true, true, true, true, true, true, true, true, true, true, true, true, true, false, false, false] 128 [.slice b 0 d, .slice a' 1 c'] rfl rfl rfl (by kernel_rfl) rfl rfl rfl Tryz.func128 rfl (by kernel_rfl) (rmul_zero _ _ _ _ _) ?_
  rintro v w' hb ⟨az, cz, rfl⟩
  replace hS := hS.trans (hb.mono hS.size)
  replace HM := Lib.hid (HM.out.mono hb)
  clear hb
  refine ⟨hS, ?_⟩
  try simp only [Act.put, List.setIfInBounds_toArray, List.set_cons_zero, List.set_cons_succ]
  refine callD 15 2 (some 20) #[true, true, true, true, true, true, true, true, true, true, true, true, true, true, true, true, false, false] 124 [.bool false, .slice az 0 cz] rfl rfl rfl (by kernel_rfl) rfl rfl rfl Tryz.func124 rfl (by kernel_rfl) (rwhole _ _ _ _) ?_
  rintro v w' hb rfl
  replace hS := hS.trans (hb.mono hS.size)
  replace HM := Lib.hid (HM.out.mono hb)
  clear hb
  refine ⟨hS, ?_⟩
  try simp only [Act.put, List.setIfInBounds_toArray, List.set_cons_zero, List.set_cons_succ]
  refine callD 16 1 (some 21) #[true, true, true, true, true, true, true, true, true, true, true, true, true, true, true, true, true, false] 206 [.agg #[.bool false, .slice am 1 cm], .agg #[.bool false, .slice az 0 cz]] rfl rfl rfl (by kernel_rfl) rfl rfl rfl Tryz.func206 rfl (by kernel_rfl) (rcmpInt _ _ _ _ _ HM.out) ?_
  rintro v w' hb rfl
  replace hS := hS.trans (hb.mono hS.size)
  clear hb
  refine ⟨hS, ?_⟩
  try simp only [Act.put, List.setIfInBounds_toArray, List.set_cons_zero, List.set_cons_succ]
  refine' takeP 17 0 (some 4) #[true, true, true, true, true, true, true, true, true, true, true, true, true, true, true, true, true, true] (v := _) rfl rfl rfl (by kernel_rfl) (by kernel_rfl) (by kernel_rfl) rfl (fun _ _ _ h => h) rfl hS (fun wz hz => ?y12) ?r12
  case y12 => (go_simp; try with_reducible rfl)
  try simp only [Act.put, List.setIfInBounds_toArray, List.set_cons_zero, List.set_cons_succ]
  refine doneD (by kernel_rfl) ?_ _
  go_wp2_with fail
  go_ret
  exact ⟨_, rfl, HBW.out.trans (hS.mono HBW.out.size), rfl⟩

theorem rcmp_oz (w : World) (a a' b b' : Option Addr) (c c' d d' : Nat) (h : L1 w a c) (h' : L1 w a' c') (k' : L1 w b' d') : Calls Tryz.prog 126 #[.agg #[.bool false, .slice a 1 c, .slice a' 1 c'], .agg #[.bool false, .slice b 0 d, .slice b' 1 d']] w
    (Ret w fun v _ => v = .int .i64 1) := by
  have H := Lib.hid h
  have H' := Lib.hid h'
  have K' := Lib.hid k'
  clear h h' k'
  go_enter Tryz.func126, Tryz.ntmps126
  go_wp2_with fail
  obtain ⟨W, hW⟩ : ∃ W, ((w.alloc (.cells #[.bool false, .slice a 1 c, .slice a' 1 c'] 44)).alloc (.cells #[.bool false, .slice b 0 d, .slice b' 1 d'] 44)) = W := ⟨_, rfl⟩
  have hc0_0 : W.cell? ⟨w.heap.size, 0, none⟩ = some (.bool false) := by rw [← hW]; simp [go_sem]
  have hc0_1 : W.cell? ⟨w.heap.size, 1, none⟩ = some (.slice a 1 c) := by rw [← hW]; simp [go_sem]
  have hc0_2 : W.cell? ⟨w.heap.size, 2, none⟩ = some (.slice a' 1 c') := by rw [← hW]; simp [go_sem]
  have hf0 : ∀ o, W.frozen? ⟨w.heap.size, o, none⟩ = false := by intro o; rw [← hW]; simp [go_sem]
  have hz0 : w.heap.size < W.heap.size := by rw [← hW]; simp <;> omega
  have hn0 : w.heap.size ≠ W.heap.size := Nat.ne_of_lt hz0
  have hc1_0 : W.cell? ⟨w.heap.size + 1, 0, none⟩ = some (.bool false) := by rw [← hW]; simp [go_sem]
  have hc1_1 : W.cell? ⟨w.heap.size + 1, 1, none⟩ = some (.slice b 0 d) := by rw [← hW]; simp [go_sem]
  have hc1_2 : W.cell? ⟨w.heap.size + 1, 2, none⟩ = some (.slice b' 1 d') := by rw [← hW]; simp [go_sem]
  have hf1 : ∀ o, W.frozen? ⟨w.heap.size + 1, o, none⟩ = false := by intro o; rw [← hW]; simp [go_sem]
  have hz1 : w.heap.size + 1 < W.heap.size := by rw [← hW]; simp <;> omega
  have hn1 : w.heap.size + 1 ≠ W.heap.size := Nat.ne_of_lt hz1
  have hBW : Below w.heap.size w W := by rw [← hW]; exact ((Below.refl w.heap.size w).alloc (Nat.le_refl _) (.cells #[.bool false, .slice a 1 c, .slice a' 1 c'] 44)).alloc (by simp; try omega) (.cells #[.bool false, .slice b 0 d, .slice b' 1 d'] 44)
  rw [hW]
  clear hW
  have HW := Lib.hid (H.out.mono hBW)
  have HW' := Lib.hid (H'.out.mono hBW)
  have KW' := Lib.hid (K'.out.mono hBW)
  have HBW := Lib.hid hBW
  clear hBW
  refine (rvalid_one _ _ _ _ _ HW.out HW'.out).mono ?_
  rintro e w1 ⟨v, rfl, hb, rfl⟩
  have hAc := bcell hb
  have HB1 := Lib.hid (HBW.out.trans (hb.mono HBW.out.size))
  have HX := Lib.hid (HW.out.mono hb)
  have HX' := Lib.hid (HW'.out.mono hb)
  have KX' := Lib.hid (KW'.out.mono hb)
  have hb1 := hb
  clear hb
  go_wp2_with fail
  refine (rvalid_zero _ _ _ _ _ KX'.out).mono ?_
  rintro e w2 ⟨v, rfl, hb, rfl⟩
  have hAc2 := bcell (hb1.trans (hb.mono hb1.size))
  have HB2 := Lib.hid (HB1.out.trans (hb.mono HB1.out.size))
  have HY := Lib.hid (HX.out.mono hb)
  have HY' := Lib.hid (HX'.out.mono hb)
  have KY' := Lib.hid (KX'.out.mono hb)
  clear hb hb1 hAc
  go_wp2_with fail
  refine (rcmpRat _ _ _ _ _ _ _ _ _ HY.out HY'.out KY'.out).mono ?_
  rintro e w3 ⟨v, rfl, hb, rfl⟩
  have HB3 := Lib.hid (HB2.out.trans (hb.mono HB2.out.size))
  clear hb hAc2
  go_wp2_with fail
  go_ret
  exact ⟨_, rfl, HB3.out, rfl⟩

set_option maxRecDepth 100000 in
theorem rsign_one (w : World) (a a' : Option Addr) (c c' : Nat) (h : L1 w a c) (h' : L1 w a' c') : Calls Tryz.prog 74 #[.agg #[.bool false, .slice a 1 c, .slice a' 1 c']] w
    (Ret w fun v _ => v = .int .i64 1) := by
  have H := Lib.hid h
  have H' := Lib.hid h'
  clear h h'
  go_enter Tryz.func74, Tryz.ntmps74
  go_wp2_with fail
  obtain ⟨W, hW⟩ : ∃ W, (w.alloc (.cells #[.bool false, .slice a 1 c, .slice a' 1 c'] 44)) = W := ⟨_, rfl⟩
  have hc0_0 : W.cell? ⟨w.heap.size, 0, none⟩ = some (.bool false) := by rw [← hW]; simp [go_sem]
  have hc0_1 : W.cell? ⟨w.heap.size, 1, none⟩ = some (.slice a 1 c) := by rw [← hW]; simp [go_sem]
  have hc0_2 : W.cell? ⟨w.heap.size, 2, none⟩ = some (.slice a' 1 c') := by rw [← hW]; simp [go_sem]
  have hf0 : ∀ o, W.frozen? ⟨w.heap.size, o, none⟩ = false := by intro o; rw [← hW]; simp [go_sem]
  have hz0 : w.heap.size < W.heap.size := by rw [← hW]; simp <;> omega
  have hn0 : w.heap.size ≠ W.heap.size := Nat.ne_of_lt hz0
  have hBW : Below w.heap.size w W := by rw [← hW]; exact (Below.refl w.heap.size w).alloc (Nat.le_refl _) (.cells #[.bool false, .slice a 1 c, .slice a' 1 c'] 44)
  rw [hW]
  clear hW
  have HW := Lib.hid (H.out.mono hBW)
  have HW' := Lib.hid (H'.out.mono hBW)
  have HBW := Lib.hid hBW
  clear hBW
  refine startD (Below W.heap.size W) (fun j => false) 4 #[false, false, false, false] (by kernel_rfl) rfl rfl ((Below.refl _ _).drew) (fun hS => ?_)
  refine' takeD 0 3 (some 3) #[true, false, false, false] (v := _) rfl rfl rfl (by kernel_rfl) (by kernel_rfl) (by kernel_rfl) (by kernel_rfl) (by kernel_rfl) rfl (fun _ _ _ h => h) rfl hS (fun wz hz => ?y13) ?r13
  case y13 => (have hzc := bcell hz; go_simp; try with_reducible rfl)
  try simp only [Act.put, List.setIfInBounds_toArray, List.set_cons_zero, List.set_cons_succ]
  refine callD 1 2 (some 4) #[true, true, false, false] 31 [.int .i64 0, .int .i64 1] rfl rfl rfl (by kernel_rfl) rfl rfl rfl Tryz.func31 rfl (by kernel_rfl) (rOf_zero _) ?_
  rintro v w' hb ⟨b, d, b', d', rfl, hm⟩
  replace hS := hS.trans (hb.mono hS.size)
  have HM := Lib.hid hm
  clear hm hb
  refine ⟨hS, ?_⟩
  try simp only [Act.put, List.setIfInBounds_toArray, List.set_cons_zero, List.set_cons_succ]
  refine callD 2 1 (some 5) #[true, true, true, false] 126 [.agg #[.bool false, .slice a 1 c, .slice a' 1 c'], .agg #[.bool false, .slice b 0 d, .slice b' 1 d']] rfl rfl rfl (by kernel_rfl) rfl rfl rfl Tryz.func126 rfl (by kernel_rfl) (rcmp_oz _ _ _ _ _ _ _ _ _ (HW.out.mono hS) (HW'.out.mono hS) HM.out) ?_
  rintro v w' hb rfl
  replace hS := hS.trans (hb.mono hS.size)
  clear hb
  refine ⟨hS, ?_⟩
  try simp only [Act.put, List.setIfInBounds_toArray, List.set_cons_zero, List.set_cons_succ]
  refine' takeP 3 0 (some 2) #[true, true, true, true] (v := _) rfl rfl rfl (by kernel_rfl) (by kernel_rfl) (by kernel_rfl) rfl (fun _ _ _ h => h) rfl hS (fun wz hz => ?y14) ?r14
  case y14 => (go_simp; try with_reducible rfl)
  try simp only [Act.put, List.setIfInBounds_toArray, List.set_cons_zero, List.set_cons_succ]
  refine doneD (by kernel_rfl) ?_ _
  go_wp2_with fail
  go_ret
  exact ⟨_, rfl, HBW.out.trans (hS.mono HBW.out.size), rfl⟩
end Go.Proofs.YtodeddappmfphaaGreatDoor
