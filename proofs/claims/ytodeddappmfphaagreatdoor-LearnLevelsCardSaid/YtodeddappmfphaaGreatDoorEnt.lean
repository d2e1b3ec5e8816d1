/- linear.Own and trail.own of nought; the trail's Entry. -/
import Derived.Test.YtodeddappmfphaaGreatDoorDec
import Derived.Test.YtodeddappmfphaaGreatDoorReg
namespace Go.Proofs.YtodeddappmfphaaGreatDoor
open Go.RowKit Go.Thd

set_option maxRecDepth 100000 in
theorem clone_nil (w : World) : Calls Tryz.prog 150 #[.slice none 0 0] w (Ret w fun v _ => v = .slice none 0 0) := by
  have hq := fun w : World => Lib.run_eql_slice_nil (P := Tryz.prog) w 42 107 none 0 0 0 0 Tryz.underlying42
  go_enter Tryz.func150, Tryz.ntmps150
  go_wp2_with fail
  go_ret
  exact ⟨_, rfl, Below.refl _ _, rfl⟩

set_option maxRecDepth 100000 in
set_option maxHeartbeats 1000000 in
theorem own_zero (w : World) : Calls Tryz.prog 107 #[.agg #[.bool false, .slice none 0 0, .slice none 0 0]] w (Ret w fun v _ => v = .agg #[.bool false, .slice none 0 0, .slice none 0 0]) := by
  go_enter Tryz.func107, Tryz.ntmps107
  go_wp2_with fail
  obtain ⟨W, hW⟩ : ∃ W, ((w.alloc (.cells #[.bool false, .slice none 0 0, .slice none 0 0] 44)).alloc (.cells #[.bool false, .slice none 0 0, .slice none 0 0] 44)) = W := ⟨_, rfl⟩
  have hc0_0 : W.cell? ⟨w.heap.size, 0, none⟩ = some (.bool false) := by rw [← hW]; simp [go_sem]
  have hc0_1 : W.cell? ⟨w.heap.size, 1, none⟩ = some (.slice none 0 0) := by rw [← hW]; simp [go_sem]
  have hc0_2 : W.cell? ⟨w.heap.size, 2, none⟩ = some (.slice none 0 0) := by rw [← hW]; simp [go_sem]
  have hf0 : ∀ o, W.frozen? ⟨w.heap.size, o, none⟩ = false := by intro o; rw [← hW]; simp [go_sem]
  have hz0 : w.heap.size < W.heap.size := by rw [← hW]; simp <;> omega
  have hn0 : w.heap.size ≠ W.heap.size := Nat.ne_of_lt hz0
  have hc1_0 : W.cell? ⟨w.heap.size + 1, 0, none⟩ = some (.bool false) := by rw [← hW]; simp [go_sem]
  have hc1_1 : W.cell? ⟨w.heap.size + 1, 1, none⟩ = some (.slice none 0 0) := by rw [← hW]; simp [go_sem]
  have hc1_2 : W.cell? ⟨w.heap.size + 1, 2, none⟩ = some (.slice none 0 0) := by rw [← hW]; simp [go_sem]
  have hf1 : ∀ o, W.frozen? ⟨w.heap.size + 1, o, none⟩ = false := by intro o; rw [← hW]; simp [go_sem]
  have hz1 : w.heap.size + 1 < W.heap.size := by rw [← hW]; simp <;> omega
  have hn1 : w.heap.size + 1 ≠ W.heap.size := Nat.ne_of_lt hz1
  have hBW : Below w.heap.size w W := by rw [← hW]; exact ((Below.refl w.heap.size w).alloc (Nat.le_refl _) (.cells #[.bool false, .slice none 0 0, .slice none 0 0] 44)).alloc (by simp; try omega) (.cells #[.bool false, .slice none 0 0, .slice none 0 0] 44)
  rw [hW]
  clear hW
  refine startD (Below W.heap.size W) (fun j => j == 9) 10 #[false, false, false, false, false, false, false, false, false, false] (by kernel_rfl) rfl rfl ((Below.refl _ _).drew) (fun hS => ?_)
  refine' takeP 0 9 (some 3) #[true, false, false, false, false, false, false, false, false, false] (v := _) rfl rfl rfl (by kernel_rfl) (by kernel_rfl) (by kernel_rfl) rfl (fun _ _ _ h => h) rfl hS (fun wz hz => ?y0) ?r0
  case y0 => (go_simp; try with_reducible rfl)
  try simp only [Act.put, List.setIfInBounds_toArray, List.set_cons_zero, List.set_cons_succ]
  refine' takeD 1 8 (some 4) #[true, true, false, false, false, false, false, false, false, false] (v := _) rfl rfl rfl (by kernel_rfl) (by kernel_rfl) (by kernel_rfl) (by kernel_rfl) (by kernel_rfl) rfl (fun _ _ _ h => h) rfl hS (fun wz hz => ?y1) ?r1
  case y1 => (have hzc := bcell hz; go_simp; try with_reducible rfl)
  try simp only [Act.put, List.setIfInBounds_toArray, List.set_cons_zero, List.set_cons_succ]
  refine' takeP 2 7 (some 5) #[true, true, true, false, false, false, false, false, false, false] (v := _) rfl rfl rfl (by kernel_rfl) (by kernel_rfl) (by kernel_rfl) rfl (fun _ _ _ h => h) rfl hS (fun wz hz => ?y2) ?r2
  case y2 => (go_simp; try with_reducible rfl)
  try simp only [Act.put, List.setIfInBounds_toArray, List.set_cons_zero, List.set_cons_succ]
  refine' takeD 3 6 (some 6) #[true, true, true, true, false, false, false, false, false, false] (v := _) rfl rfl rfl (by kernel_rfl) (by kernel_rfl) (by kernel_rfl) (by kernel_rfl) (by kernel_rfl) rfl (fun _ _ _ h => h) rfl hS (fun wz hz => ?y3) ?r3
  case y3 => (have hzc := bcell hz; go_simp; try with_reducible rfl)
  try simp only [Act.put, List.setIfInBounds_toArray, List.set_cons_zero, List.set_cons_succ]
  refine' takeP 5 5 (some 8) #[true, true, true, true, false, true, false, false, false, false] (v := _) rfl rfl rfl (by kernel_rfl) (by kernel_rfl) (by kernel_rfl) rfl (fun _ _ _ h => h) rfl hS (fun wz hz => ?y4) ?r4
  case y4 => (go_simp; try with_reducible rfl)
  try simp only [Act.put, List.setIfInBounds_toArray, List.set_cons_zero, List.set_cons_succ]
  refine' takeD 6 4 (some 9) #[true, true, true, true, false, true, true, false, false, false] (v := _) rfl rfl rfl (by kernel_rfl) (by kernel_rfl) (by kernel_rfl) (by kernel_rfl) (by kernel_rfl) rfl (fun _ _ _ h => h) rfl hS (fun wz hz => ?y5) ?r5
  case y5 => (have hzc := bcell hz; go_simp; try with_reducible rfl)
  try simp only [Act.put, List.setIfInBounds_toArray, List.set_cons_zero, List.set_cons_succ]
  refine callD 4 3 (some 7) #[true, true, true, true, true, true, true, false, false, false] 150 [.slice none 0 0] rfl rfl rfl (by kernel_rfl) rfl rfl rfl Tryz.func150 rfl (by kernel_rfl) (clone_nil _) ?_
  rintro v w' hb rfl
  replace hS := hS.trans (hb.mono hS.size)
  refine ⟨hS, ?_⟩
  try simp only [Act.put, List.setIfInBounds_toArray, List.set_cons_zero, List.set_cons_succ]
  refine callD 7 2 (some 10) #[true, true, true, true, true, true, true, true, false, false] 150 [.slice none 0 0] rfl rfl rfl (by kernel_rfl) rfl rfl rfl Tryz.func150 rfl (by kernel_rfl) (clone_nil _) ?_
  rintro v w' hb rfl
  replace hS := hS.trans (hb.mono hS.size)
  refine ⟨hS, ?_⟩
  try simp only [Act.put, List.setIfInBounds_toArray, List.set_cons_zero, List.set_cons_succ]
  refine' takeP 8 1 (some 11) #[true, true, true, true, true, true, true, true, true, false] (v := _) rfl rfl rfl (by kernel_rfl) (by kernel_rfl) (by kernel_rfl) rfl (fun _ _ _ h => h) rfl hS (fun wz hz => ?y6) ?r6
  case y6 => (go_simp; try with_reducible rfl)
  try simp only [Act.put, List.setIfInBounds_toArray, List.set_cons_zero, List.set_cons_succ]
  refine onlyD 9 0 #[true, true, true, true, true, true, true, true, true, true] rfl rfl (by kernel_rfl) rfl (fun K hK => ?_)
  have hAc := bcell hS
  go_simp
  refine hK _ _ (fun h => absurd (h 9 rfl) (by decide)) ?_
  clear hK K hAc
  try simp only [Act.put, List.setIfInBounds_toArray, List.set_cons_zero, List.set_cons_succ]
  refine doneD (by kernel_rfl) ?_ _
  have hAc := bcell hS
  go_wp2_with fail
  exact bodyPost_ret (v := .agg #[.bool false, .slice none 0 0, .slice none 0 0]) (by simp [results, Tryz.results107, go_sem, hAc.1 _ _ hz1, hc1_0, hc1_1, hc1_2]) rfl ⟨_, rfl,
    (((hBW.trans (hS.mono hBW.size)).setCell (by simp) _).setCell (by simp) _).setCell (by simp) _, rfl⟩

set_option maxRecDepth 100000 in
theorem ownV_zero (w : World) : Calls Tryz.prog 55 #[.agg #[.int .i64 0, .bool false, .bool false, .slice none 0 0, .slice none 0 0, .int .i64 0]] w (Ret w fun v _ => v = .agg #[.int .i64 0, .bool false, .bool false, .slice none 0 0, .slice none 0 0, .int .i64 0]) := by
  go_enter Tryz.func55, Tryz.ntmps55
  go_wp2_with fail
  obtain ⟨W, hW⟩ : ∃ W, ((w.alloc (.cells #[.int .i64 0, .bool false, .bool false, .slice none 0 0, .slice none 0 0, .int .i64 0] 46)).alloc (.cells #[.int .i64 0, .bool false, .bool false, .slice none 0 0, .slice none 0 0, .int .i64 0] 46)) = W := ⟨_, rfl⟩
  have hc0_0 : W.cell? ⟨w.heap.size, 0, none⟩ = some (.int .i64 0) := by rw [← hW]; simp [go_sem]
  have hc0_1 : W.cell? ⟨w.heap.size, 1, none⟩ = some (.bool false) := by rw [← hW]; simp [go_sem]
  have hc0_2 : W.cell? ⟨w.heap.size, 2, none⟩ = some (.bool false) := by rw [← hW]; simp [go_sem]
  have hc0_3 : W.cell? ⟨w.heap.size, 3, none⟩ = some (.slice none 0 0) := by rw [← hW]; simp [go_sem]
  have hc0_4 : W.cell? ⟨w.heap.size, 4, none⟩ = some (.slice none 0 0) := by rw [← hW]; simp [go_sem]
  have hc0_5 : W.cell? ⟨w.heap.size, 5, none⟩ = some (.int .i64 0) := by rw [← hW]; simp [go_sem]
  have hf0 : ∀ o, W.frozen? ⟨w.heap.size, o, none⟩ = false := by intro o; rw [← hW]; simp [go_sem]
  have hz0 : w.heap.size < W.heap.size := by rw [← hW]; simp <;> omega
  have hn0 : w.heap.size ≠ W.heap.size := Nat.ne_of_lt hz0
  have hc1_0 : W.cell? ⟨w.heap.size + 1, 0, none⟩ = some (.int .i64 0) := by rw [← hW]; simp [go_sem]
  have hc1_1 : W.cell? ⟨w.heap.size + 1, 1, none⟩ = some (.bool false) := by rw [← hW]; simp [go_sem]
  have hc1_2 : W.cell? ⟨w.heap.size + 1, 2, none⟩ = some (.bool false) := by rw [← hW]; simp [go_sem]
  have hc1_3 : W.cell? ⟨w.heap.size + 1, 3, none⟩ = some (.slice none 0 0) := by rw [← hW]; simp [go_sem]
  have hc1_4 : W.cell? ⟨w.heap.size + 1, 4, none⟩ = some (.slice none 0 0) := by rw [← hW]; simp [go_sem]
  have hc1_5 : W.cell? ⟨w.heap.size + 1, 5, none⟩ = some (.int .i64 0) := by rw [← hW]; simp [go_sem]
  have hf1 : ∀ o, W.frozen? ⟨w.heap.size + 1, o, none⟩ = false := by intro o; rw [← hW]; simp [go_sem]
  have hz1 : w.heap.size + 1 < W.heap.size := by rw [← hW]; simp <;> omega
  have hn1 : w.heap.size + 1 ≠ W.heap.size := Nat.ne_of_lt hz1
  have hBW : Below w.heap.size w W := by rw [← hW]; exact ((Below.refl w.heap.size w).alloc (Nat.le_refl _) (.cells #[.int .i64 0, .bool false, .bool false, .slice none 0 0, .slice none 0 0, .int .i64 0] 46)).alloc (by simp; try omega) (.cells #[.int .i64 0, .bool false, .bool false, .slice none 0 0, .slice none 0 0, .int .i64 0] 46)
  rw [hW]
  clear hW
  with_reducible refine (own_zero W).mono ?_
  rintro e w' ⟨v, rfl, hb, rfl⟩
  have hAc := bcell hb
  go_wp2_with fail
  exact bodyPost_ret (v := .agg #[.int .i64 0, .bool false, .bool false, .slice none 0 0, .slice none 0 0, .int .i64 0]) (by simp [results, Tryz.results55, go_sem, hAc.1 _ _ hz0, hAc.1 _ _ hz1, hc1_0, hc1_1, hc1_2, hc1_3, hc1_4, hc1_5]) rfl ⟨_, rfl,
    (((((((((hBW.trans (hb.mono hBW.size)).setCell (by simp) _).setCell (by simp) _).setCell (by simp) _).setCell (by simp) _).setCell (by simp) _).setCell (by simp) _).setCell (by simp) _).setCell (by simp) _).setCell (by simp) _, rfl⟩

set_option maxRecDepth 100000 in
set_option maxHeartbeats 1000000 in
theorem entry_any {w : World} {T : TA} {S : St} (h : Tr w T S) (i : Nat) (hi : i < S.m) (hfw : (S.e i).why.length ≤ 100000) :
    Calls Tryz.prog 59 #[.pointer (some ⟨T.bt, 0, none⟩), .int .i64 (i : Nat)] w
      (Ret w fun v w' => ∃ a c, v = .agg #[.int .i64 (S.e i).kind, .int .i64 (S.e i).lit, .slice a (S.e i).why.length c, .int .i64 0, .int .i64 0, .bool false, .bool false, .slice none 0 0, .slice none 0 0, .int .i64 0, .int .i64 (S.e i).lev] ∧ Ints w' a c (S.e i).why) := by
  obtain ⟨c1, c4, c5, c6⟩ := h.cells
  obtain ⟨be, ce, hev, hbe, hec⟩ := h.ev (by omega)
  rw [hev] at c5
  have hfE := h.fewE
  obtain ⟨hwy, hap⟩ := h.whys i hi
  have e0 := hec i 0 hi (by omega)
  have e1 := hec i 1 hi (by omega)
  have e2 := hec i 2 hi (by omega)
  have e3 := hec i 3 hi (by omega)
  have e4 := hec i 4 hi (by omega)
  have e5 := hec i 5 hi (by omega)
  have e6 := hec i 6 hi (by omega)
  have e7 := hec i 7 hi (by omega)
  have e8 := hec i 8 hi (by omega)
  have e9 := hec i 9 hi (by omega)
  have e10 := hec i 10 hi (by omega)
  have hlt := h.lt
  simp only [enC] at e0 e1 e2 e3 e4 e5 e6 e7 e8 e9 e10
  have e0' : w.cell? ⟨be, i * 11, none⟩ = some (.int .i64 (S.e i).kind) := e0
  clear hec h hev c1 c4 c6 e0
  generalize (S.e i).kind = kk at *
  generalize (S.e i).lit = ll at *
  generalize (S.e i).lev = vv at *
  go_enter Tryz.func59, Tryz.ntmps59
  go_wp2_with fail
  obtain ⟨W, hW⟩ : ∃ W, ((w.alloc (.cells #[.int .i64 0, .int .i64 0, .slice none 0 0, .int .i64 0, .int .i64 0, .bool false, .bool false, .slice none 0 0, .slice none 0 0, .int .i64 0, .int .i64 0] 68)).alloc (.cells #[.int .i64 kk, .int .i64 ll, .slice (T.wa i) (S.e i).why.length (T.wc i), .int .i64 0, .int .i64 0, .bool false, .bool false, .slice none 0 0, .slice none 0 0, .int .i64 0, .int .i64 vv] 68)) = W := ⟨_, rfl⟩
  have hc0_0 : W.cell? ⟨w.heap.size, 0, none⟩ = some (.int .i64 0) := by rw [← hW]; simp [go_sem]
  have hc0_1 : W.cell? ⟨w.heap.size, 1, none⟩ = some (.int .i64 0) := by rw [← hW]; simp [go_sem]
  have hc0_2 : W.cell? ⟨w.heap.size, 2, none⟩ = some (.slice none 0 0) := by rw [← hW]; simp [go_sem]
  have hc0_3 : W.cell? ⟨w.heap.size, 3, none⟩ = some (.int .i64 0) := by rw [← hW]; simp [go_sem]
  have hc0_4 : W.cell? ⟨w.heap.size, 4, none⟩ = some (.int .i64 0) := by rw [← hW]; simp [go_sem]
  have hc0_5 : W.cell? ⟨w.heap.size, 5, none⟩ = some (.bool false) := by rw [← hW]; simp [go_sem]
  have hc0_6 : W.cell? ⟨w.heap.size, 6, none⟩ = some (.bool false) := by rw [← hW]; simp [go_sem]
  have hc0_7 : W.cell? ⟨w.heap.size, 7, none⟩ = some (.slice none 0 0) := by rw [← hW]; simp [go_sem]
  have hc0_8 : W.cell? ⟨w.heap.size, 8, none⟩ = some (.slice none 0 0) := by rw [← hW]; simp [go_sem]
  have hc0_9 : W.cell? ⟨w.heap.size, 9, none⟩ = some (.int .i64 0) := by rw [← hW]; simp [go_sem]
  have hc0_10 : W.cell? ⟨w.heap.size, 10, none⟩ = some (.int .i64 0) := by rw [← hW]; simp [go_sem]
  have hf0 : ∀ o, W.frozen? ⟨w.heap.size, o, none⟩ = false := by intro o; rw [← hW]; simp [go_sem]
  have hz0 : w.heap.size < W.heap.size := by rw [← hW]; simp <;> omega
  have hn0 : w.heap.size ≠ W.heap.size := Nat.ne_of_lt hz0
  have hc1_0 : W.cell? ⟨w.heap.size + 1, 0, none⟩ = some (.int .i64 kk) := by rw [← hW]; simp [go_sem]
  have hc1_1 : W.cell? ⟨w.heap.size + 1, 1, none⟩ = some (.int .i64 ll) := by rw [← hW]; simp [go_sem]
  have hc1_2 : W.cell? ⟨w.heap.size + 1, 2, none⟩ = some (.slice (T.wa i) (S.e i).why.length (T.wc i)) := by rw [← hW]; simp [go_sem]
  have hc1_3 : W.cell? ⟨w.heap.size + 1, 3, none⟩ = some (.int .i64 0) := by rw [← hW]; simp [go_sem]
  have hc1_4 : W.cell? ⟨w.heap.size + 1, 4, none⟩ = some (.int .i64 0) := by rw [← hW]; simp [go_sem]
  have hc1_5 : W.cell? ⟨w.heap.size + 1, 5, none⟩ = some (.bool false) := by rw [← hW]; simp [go_sem]
  have hc1_6 : W.cell? ⟨w.heap.size + 1, 6, none⟩ = some (.bool false) := by rw [← hW]; simp [go_sem]
  have hc1_7 : W.cell? ⟨w.heap.size + 1, 7, none⟩ = some (.slice none 0 0) := by rw [← hW]; simp [go_sem]
  have hc1_8 : W.cell? ⟨w.heap.size + 1, 8, none⟩ = some (.slice none 0 0) := by rw [← hW]; simp [go_sem]
  have hc1_9 : W.cell? ⟨w.heap.size + 1, 9, none⟩ = some (.int .i64 0) := by rw [← hW]; simp [go_sem]
  have hc1_10 : W.cell? ⟨w.heap.size + 1, 10, none⟩ = some (.int .i64 vv) := by rw [← hW]; simp [go_sem]
  have hf1 : ∀ o, W.frozen? ⟨w.heap.size + 1, o, none⟩ = false := by intro o; rw [← hW]; simp [go_sem]
  have hz1 : w.heap.size + 1 < W.heap.size := by rw [← hW]; simp <;> omega
  have hn1 : w.heap.size + 1 ≠ W.heap.size := Nat.ne_of_lt hz1
  have hBW : Below w.heap.size w W := by rw [← hW]; exact ((Below.refl w.heap.size w).alloc (Nat.le_refl _) (.cells #[.int .i64 0, .int .i64 0, .slice none 0 0, .int .i64 0, .int .i64 0, .bool false, .bool false, .slice none 0 0, .slice none 0 0, .int .i64 0, .int .i64 0] 68)).alloc (by simp; try omega) (.cells #[.int .i64 kk, .int .i64 ll, .slice (T.wa i) (S.e i).why.length (T.wc i), .int .i64 0, .int .i64 0, .bool false, .bool false, .slice none 0 0, .slice none 0 0, .int .i64 0, .int .i64 vv] 68)
  rw [hW]
  clear hW
  have hwW := hwy.mono hBW
  refine startD (Below W.heap.size W) (fun j => j == 7 || j == 8 || j == 9) 10 #[false, false, false, false, false, false, false, false, false, false] (by kernel_rfl) rfl rfl ((Below.refl _ _).drew) (fun hS => ?_)
  refine' takeP 0 9 (some 13) #[true, false, false, false, false, false, false, false, false, false] (v := _) rfl rfl rfl (by kernel_rfl) (by kernel_rfl) (by kernel_rfl) rfl (fun _ _ _ h => h) rfl hS (fun wz hz => ?y7) ?r7
  case y7 => (go_simp; try with_reducible rfl)
  try simp only [Act.put, List.setIfInBounds_toArray, List.set_cons_zero, List.set_cons_succ]
  refine' takeD 1 8 (some 14) #[true, true, false, false, false, false, false, false, false, false] (v := _) rfl rfl rfl (by kernel_rfl) (by kernel_rfl) (by kernel_rfl) (by kernel_rfl) (by kernel_rfl) rfl (fun _ _ _ h => h) rfl hS (fun wz hz => ?y8) ?r8
  case y8 => (have hzc := bcell hz; go_simp; try with_reducible rfl)
  try simp only [Act.put, List.setIfInBounds_toArray, List.set_cons_zero, List.set_cons_succ]
  refine' takeP 3 7 (some 16) #[true, true, false, true, false, false, false, false, false, false] (v := _) rfl rfl rfl (by kernel_rfl) (by kernel_rfl) (by kernel_rfl) rfl (fun _ _ _ h => h) rfl hS (fun wz hz => ?y9) ?r9
  case y9 => (go_simp; try with_reducible rfl)
  try simp only [Act.put, List.setIfInBounds_toArray, List.set_cons_zero, List.set_cons_succ]
  refine' takeD 4 6 (some 17) #[true, true, false, true, true, false, false, false, false, false] (v := _) rfl rfl rfl (by kernel_rfl) (by kernel_rfl) (by kernel_rfl) (by kernel_rfl) (by kernel_rfl) rfl (fun _ _ _ h => h) rfl hS (fun wz hz => ?y10) ?r10
  case y10 => (have hzc := bcell hz; go_simp; try with_reducible rfl)
  try simp only [Act.put, List.setIfInBounds_toArray, List.set_cons_zero, List.set_cons_succ]
  refine callD 2 5 (some 15) #[true, true, true, true, true, false, false, false, false, false] 81 [.slice (T.wa i) (S.e i).why.length (T.wc i)] rfl rfl rfl (by kernel_rfl) rfl rfl rfl Tryz.func81 rfl (by kernel_rfl) (clone_ints _ _ _ _ (hwW.mono hS) hfw) ?_
  rintro v w' hb ⟨HO, hfr⟩
  replace hS := hS.trans (hb.mono hS.size)
  refine ⟨hS, ?_⟩
  try simp only [Act.put, List.setIfInBounds_toArray, List.set_cons_zero, List.set_cons_succ]
  refine' takeP 6 4 (some 19) #[true, true, true, true, true, false, true, false, false, false] (v := _) rfl rfl rfl (by kernel_rfl) (by kernel_rfl) (by kernel_rfl) rfl (fun _ _ _ h => h) rfl hS (fun wz hz => ?y11) ?r11
  case y11 => (go_simp; try with_reducible rfl)
  try simp only [Act.put, List.setIfInBounds_toArray, List.set_cons_zero, List.set_cons_succ]
  refine callD 5 3 (some 18) #[true, true, true, true, true, true, true, false, false, false] 55 [.agg #[.int .i64 0, .bool false, .bool false, .slice none 0 0, .slice none 0 0, .int .i64 0]] rfl rfl rfl (by kernel_rfl) rfl rfl rfl Tryz.func55 rfl (by kernel_rfl) (ownV_zero _) ?_
  rintro v w' hb rfl
  replace hS := hS.trans (hb.mono hS.size)
  replace HO := HO.mono hb
  obtain ⟨a', c', rfl, HI', _⟩ := HO.slice
  clear HO
  refine ⟨hS, ?_⟩
  try simp only [Act.put, List.setIfInBounds_toArray, List.set_cons_zero, List.set_cons_succ]
  refine onlyD 7 2 #[true, true, true, true, true, true, true, true, false, false] rfl rfl (by kernel_rfl) rfl (fun K hK => ?_)
  have hAc := bcell hS
  go_simp
  refine hK _ _ (fun h => absurd (h 7 rfl) (by decide)) ?_
  clear hK K hAc
  try simp only [Act.put, List.setIfInBounds_toArray, List.set_cons_zero, List.set_cons_succ]
  refine onlyD 8 1 #[true, true, true, true, true, true, true, true, true, false] rfl rfl (by kernel_rfl) rfl (fun K hK => ?_)
  have hAc := bcell hS
  go_simp
  refine hK _ _ (fun h => absurd (h 8 rfl) (by decide)) ?_
  clear hK K hAc
  try simp only [Act.put, List.setIfInBounds_toArray, List.set_cons_zero, List.set_cons_succ]
  refine onlyD 9 0 #[true, true, true, true, true, true, true, true, true, true] rfl rfl (by kernel_rfl) rfl (fun K hK => ?_)
  have hAc := bcell hS
  go_simp
  refine hK _ _ (fun h => absurd (h 9 rfl) (by decide)) ?_
  clear hK K hAc
  try simp only [Act.put, List.setIfInBounds_toArray, List.set_cons_zero, List.set_cons_succ]
  refine doneD (by kernel_rfl) ?_ _
  have hAc := bcell hS
  go_wp2_with fail
  refine bodyPost_ret (v := .agg #[.int .i64 kk, .int .i64 ll, .slice (a') (S.e i).why.length (c'), .int .i64 0, .int .i64 0, .bool false, .bool false, .slice none 0 0, .slice none 0 0, .int .i64 0, .int .i64 vv]) (by simp [results, Tryz.results59, go_sem, hAc.1 _ _ hz0, hAc.1 _ _ hz1, hc0_0, hc0_1, hc0_2, hc0_3, hc0_4, hc0_5, hc0_6, hc0_7, hc0_8, hc0_9, hc0_10]) rfl ⟨_, rfl, ?_, a', c', rfl, ?_⟩
  · refine Below.trans (hBW.trans (hS.mono hBW.size)) ?_
    iterate 18 with_reducible refine Below.setCell ?_ (by simp) _
    with_reducible exact Below.refl _ _
  · refine HI'.upd (F := fun k => k = w.heap.size ∨ k = w.heap.size + 1) ?_ ?_
    · iterate 18 with_reducible refine Upd.trans ?_ (Upd.set _ _ _ _ (by simp))
      with_reducible exact Upd.refl _ _
    · intro p hp hF
      subst hp
      have h2 : W.heap.size ≤ p.block := hfr p.block rfl
      rcases hF with h | h <;> omega
end Go.Proofs.YtodeddappmfphaaGreatDoor
