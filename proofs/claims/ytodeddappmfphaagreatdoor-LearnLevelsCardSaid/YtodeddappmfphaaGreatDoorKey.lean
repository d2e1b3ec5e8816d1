/- rat.Text of nought; strings.Builder's WriteString; cnf.Key at an atom that speaks of a Bool. -/
import Derived.Test.YtodeddappmfphaaGreatDoorCnf
import Derived.Test.YtodeddappmfphaaGreatDoorRatA
import Derived.Test.YtodeddappmfphaaGreatDoorWri
namespace Go.Proofs.YtodeddappmfphaaGreatDoor
open Go.RowKit Go.Thd

set_option maxRecDepth 100000 in
theorem ratValid_zero (w : World) : Calls Tryz.prog 69 #[.agg #[.bool false, .slice none 0 0, .slice none 0 0]] w (Ret w fun v _ => v = .bool false) := by
  go_enter Tryz.func69, Tryz.ntmps69
  go_wp2_with fail
  with_reducible refine (natValid_nil _ none 0).mono ?_
  rintro e w1 ⟨rfl, rfl⟩
  go_wp2_with fail
  with_reducible refine (natValid_nil _ none 0).mono ?_
  rintro e w1 ⟨rfl, rfl⟩
  go_wp2_with fail
  go_ret
  exact ⟨_, rfl, (Below.refl _ _).alloc (Nat.le_refl _) _, rfl⟩

set_option maxRecDepth 100000 in
theorem ratText_zero (w : World) : Calls Tryz.prog 115 #[.agg #[.bool false, .slice none 0 0, .slice none 0 0]] w (Ret w fun v _ => v = .string ⟨#[]⟩) := by
  go_enter Tryz.func115, Tryz.ntmps115
  go_wp2_with fail
  with_reducible refine (ratValid_zero _).mono ?_
  rintro e w1 ⟨v, rfl, hb, rfl⟩
  have hB0 : Below w.heap.size w (w.alloc (.cells #[.bool false, .slice none 0 0, .slice none 0 0] 44)) := (Below.refl _ _).alloc (Nat.le_refl _) _
  have HB := Lib.hid (hB0.trans (hb.mono hB0.size))
  clear hb hB0
  go_wp2_with fail
  go_ret
  exact ⟨_, rfl, HB.out, rfl⟩

theorem itoa_ret (w : World) (i : Nat) (hi : i < 100) : Calls Tryz.prog 114 #[.int .i64 (i : Nat)] w (Ret w fun v _ => v = .string ⟨(Lib.decDigits i).toArray⟩) :=
  (Tryz.strconv_Itoa_small i hi w).mono fun e w' ⟨he, hw⟩ => ⟨_, he, by rw [hw]; exact Below.refl _ _, rfl⟩
theorem dd_six : Lib.decDigits 6 = [54] := by unfold Lib.decDigits; rfl
theorem dd_nought : Lib.decDigits 0 = [48] := by unfold Lib.decDigits; rfl
theorem dd_len (n : Nat) (h : n < 100) : (Lib.decDigits n).length ≤ 2 := by
  unfold Lib.decDigits
  split
  · simp
  · unfold Lib.decDigits
    rw [dif_pos (by omega)]; simp
theorem itoa_six (w : World) : Calls Tryz.prog 114 #[.int .i64 6] w (Ret w fun v _ => v = .string ⟨#[54]⟩) :=
  (itoa_ret w 6 (by omega)).mono fun e w' ⟨v, he, hb, hv⟩ => ⟨v, he, hb, by rw [hv, dd_six]⟩
theorem itoa_nought (w : World) : Calls Tryz.prog 114 #[.int .i64 0] w (Ret w fun v _ => v = .string ⟨#[48]⟩) :=
  (itoa_ret w 0 (by omega)).mono fun e w' ⟨v, he, hb, hv⟩ => ⟨v, he, hb, by rw [hv, dd_nought]⟩

def keyS (A : Nat) : ByteArray := ⟨#[54]⟩ ++ ⟨#[32]⟩ ++ ⟨(Lib.decDigits A).toArray⟩ ++ ⟨#[32]⟩ ++ ⟨#[48]⟩
theorem keyS_size (A : Nat) : (keyS A).size = 4 + (Lib.decDigits A).length := by
  show (⟨#[54]⟩ ++ ⟨#[32]⟩ ++ ⟨(Lib.decDigits A).toArray⟩ ++ ⟨#[32]⟩ ++ ⟨#[48]⟩ : ByteArray).size = _
  simp only [ByteArray.size_append]
  simp [ByteArray.size]; omega
theorem Upd.ofB {B : Nat} {w w' : World} (h : Below B w w') : Upd (fun k => B ≤ k) w w' := ⟨h.os, h.tape, h.output, h.size, fun k _ hn => h.block k (by omega)⟩
set_option maxRecDepth 100000 in
set_option maxHeartbeats 1000000 in
theorem key_holds (w : World) (A : Nat) (hAA : A < 100) : Calls Tryz.prog 64 #[.agg #[.int .i64 6, .slice none 0 0, .bool false, .slice none 0 0, .slice none 0 0, .int .i64 (A : Nat), .int .i64 0]] w
    (Ret w fun v _ => v = .string (keyS A ++ ⟨#[32]⟩ ++ ⟨#[]⟩)) := by
  have hdl := dd_len A hAA
  have hn1 : (9223372036854775807 < 2 + (Lib.decDigits A).length) = False := by simp; omega
  have hn2 : (9223372036854775807 < 2 + (Lib.decDigits A).length + 1) = False := by simp; omega
  have hn3 : (9223372036854775807 < 2 + (Lib.decDigits A).length + 1 + 1) = False := by simp; omega
  go_enter Tryz.func64, Tryz.ntmps64
  go_wp2_with fail
  obtain ⟨W, hW⟩ : ∃ W, ((w.alloc (.cells #[.int .i64 6, .slice none 0 0, .bool false, .slice none 0 0, .slice none 0 0, .int .i64 A, .int .i64 0] 51)).alloc (.cells #[.pointer none, .slice none 0 0] 173)) = W := ⟨_, rfl⟩
  have hc0_0 : W.cell? ⟨w.heap.size, 0, none⟩ = some (.int .i64 6) := by rw [← hW]; simp [go_sem]
  have hc0_1 : W.cell? ⟨w.heap.size, 1, none⟩ = some (.slice none 0 0) := by rw [← hW]; simp [go_sem]
  have hc0_2 : W.cell? ⟨w.heap.size, 2, none⟩ = some (.bool false) := by rw [← hW]; simp [go_sem]
  have hc0_3 : W.cell? ⟨w.heap.size, 3, none⟩ = some (.slice none 0 0) := by rw [← hW]; simp [go_sem]
  have hc0_4 : W.cell? ⟨w.heap.size, 4, none⟩ = some (.slice none 0 0) := by rw [← hW]; simp [go_sem]
  have hc0_5 : W.cell? ⟨w.heap.size, 5, none⟩ = some (.int .i64 A) := by rw [← hW]; simp [go_sem]
  have hc0_6 : W.cell? ⟨w.heap.size, 6, none⟩ = some (.int .i64 0) := by rw [← hW]; simp [go_sem]
  have hf0 : ∀ o, W.frozen? ⟨w.heap.size, o, none⟩ = false := by intro o; rw [← hW]; simp [go_sem]
  have hz0 : w.heap.size < W.heap.size := by rw [← hW]; simp <;> omega
  have hn0 : w.heap.size ≠ W.heap.size := Nat.ne_of_lt hz0
  have hc1_0 : W.cell? ⟨w.heap.size + 1, 0, none⟩ = some (.pointer none) := by rw [← hW]; simp [go_sem]
  have hc1_1 : W.cell? ⟨w.heap.size + 1, 1, none⟩ = some (.slice none 0 0) := by rw [← hW]; simp [go_sem]
  have hf1 : ∀ o, W.frozen? ⟨w.heap.size + 1, o, none⟩ = false := by intro o; rw [← hW]; simp [go_sem]
  have hz1 : w.heap.size + 1 < W.heap.size := by rw [← hW]; simp <;> omega
  have hn1 : w.heap.size + 1 ≠ W.heap.size := Nat.ne_of_lt hz1
  have hBW : Below w.heap.size w W := by rw [← hW]; exact ((Below.refl w.heap.size w).alloc (Nat.le_refl _) (.cells #[.int .i64 6, .slice none 0 0, .bool false, .slice none 0 0, .slice none 0 0, .int .i64 A, .int .i64 0] 51)).alloc (by simp; try omega) (.cells #[.pointer none, .slice none 0 0] 173)
  have hBK : W.heap[w.heap.size + 1]? = some (.cells #[.pointer none, .slice none 0 0] 173 (0, 0)) := by rw [← hW, show w.heap.size + 1 = (w.alloc (.cells #[.int .i64 6, .slice none 0 0, .bool false, .slice none 0 0, .slice none 0 0, .int .i64 A, .int .i64 0] 51)).heap.size from by simp]; exact heap_alloc_new _ _
  rw [hW]
  clear hW
  have HBK := Lib.hid hBK
  have HWS : Hid (∀ wz, Below W.heap.size W wz → Calls Tryz.prog 113 #[.pointer (some ⟨w.heap.size + 1, 0, none⟩), .string (keyS A)] wz fun e w' => e = .returned (.tuple #[.int .i64 (keyS A).size, .nilIface]) ∧ (Lib.BuilderAt 173 5 (w.heap.size + 1) (w.heap.size + 1) (.pointer (some ⟨w.heap.size + 1, 0, none⟩)) ([] ++ Lib.strCells (keyS A)) w' ∧ Below (w.heap.size + 1) wz w')) := fun wz hz =>
    Tryz.Builder_WriteString (w.heap.size + 1) (w.heap.size + 1) [] (keyS A) wz (.inl ⟨Nat.le_refl _, .slice none 0 0, by rw [hz.block _ hz1]; exact HBK.out, World.ownsRow_nil wz _ _ _, by simp [Value.ownBlock]⟩) (by rw [keyS_size]; simp; omega) (Nat.le_trans (Nat.le_of_lt hz1) hz.size)
  clear hBK
  have HNF0 : Hid (¬ (w.heap.size + 1 ≤ w.heap.size)) := by show ¬ _; omega
  refine region_start (Upd (fun k => w.heap.size + 1 ≤ k) W) 14 #[false, false, false, false, false, false, false, false, false, false, false, false, false, false] (by kernel_rfl) rfl rfl (Upd.drew (Upd.refl _ _)) (fun hS => ?_)
  have hA : Below W.heap.size W W.drew := (Below.refl _ _).drew
  refine' take_run 0 13 (some 6) #[true, false, false, false, false, false, false, false, false, false, false, false, false, false] (v := _) rfl rfl rfl (by kernel_rfl) (by kernel_rfl) (by kernel_rfl) (fun _ _ _ h => h) rfl hS (fun wz hz => ?y0) ?r0
  case y0 => (go_simp; try with_reducible rfl)
  try simp only [Act.put, List.setIfInBounds_toArray, List.set_cons_zero, List.set_cons_succ]
  refine' take_run 1 12 (some 7) #[true, true, false, false, false, false, false, false, false, false, false, false, false, false] (v := _) rfl rfl rfl (by kernel_rfl) (by kernel_rfl) (by kernel_rfl) (fun _ _ _ h => h) rfl hS (fun wz hz => ?y1) ?r1
  case y1 => (have q0 := (hz.cell hz0 HNF0.out 0).trans hc0_0; have q5 := (hz.cell hz0 HNF0.out 5).trans hc0_5; have q6 := (hz.cell hz0 HNF0.out 6).trans hc0_6; go_simp; try with_reducible rfl)
  try simp only [Act.put, List.setIfInBounds_toArray, List.set_cons_zero, List.set_cons_succ]
  refine' take_run 4 11 (some 10) #[true, true, false, false, true, false, false, false, false, false, false, false, false, false] (v := _) rfl rfl rfl (by kernel_rfl) (by kernel_rfl) (by kernel_rfl) (fun _ _ _ h => h) rfl hS (fun wz hz => ?y2) ?r2
  case y2 => (go_simp; try with_reducible rfl)
  try simp only [Act.put, List.setIfInBounds_toArray, List.set_cons_zero, List.set_cons_succ]
  refine' take_run 5 10 (some 11) #[true, true, false, false, true, true, false, false, false, false, false, false, false, false] (v := _) rfl rfl rfl (by kernel_rfl) (by kernel_rfl) (by kernel_rfl) (fun _ _ _ h => h) rfl hS (fun wz hz => ?y3) ?r3
  case y3 => (have q0 := (hz.cell hz0 HNF0.out 0).trans hc0_0; have q5 := (hz.cell hz0 HNF0.out 5).trans hc0_5; have q6 := (hz.cell hz0 HNF0.out 6).trans hc0_6; go_simp; try with_reducible rfl)
  try simp only [Act.put, List.setIfInBounds_toArray, List.set_cons_zero, List.set_cons_succ]
  refine' take_run 9 9 (some 15) #[true, true, false, false, true, true, false, false, false, true, false, false, false, false] (v := _) rfl rfl rfl (by kernel_rfl) (by kernel_rfl) (by kernel_rfl) (fun _ _ _ h => h) rfl hS (fun wz hz => ?y4) ?r4
  case y4 => (go_simp; try with_reducible rfl)
  try simp only [Act.put, List.setIfInBounds_toArray, List.set_cons_zero, List.set_cons_succ]
  refine' take_run 10 8 (some 16) #[true, true, false, false, true, true, false, false, false, true, true, false, false, false] (v := _) rfl rfl rfl (by kernel_rfl) (by kernel_rfl) (by kernel_rfl) (fun _ _ _ h => h) rfl hS (fun wz hz => ?y5) ?r5
  case y5 => (have q0 := (hz.cell hz0 HNF0.out 0).trans hc0_0; have q5 := (hz.cell hz0 HNF0.out 5).trans hc0_5; have q6 := (hz.cell hz0 HNF0.out 6).trans hc0_6; go_simp; try with_reducible rfl)
  try simp only [Act.put, List.setIfInBounds_toArray, List.set_cons_zero, List.set_cons_succ]
  refine step_call 2 7 (some 8) #[true, true, true, false, true, true, false, false, false, true, true, false, false, false] 114 [.int .i64 6] rfl rfl rfl (by kernel_rfl) rfl rfl rfl Tryz.func114 rfl (by kernel_rfl) (itoa_six _) ?_
  rintro v w' hb rfl
  replace hS := hS.trans (Upd.of hb)
  replace hA := hA.trans (hb.mono hA.size)
  refine ⟨hS, ?_⟩
  try simp only [Act.put, List.setIfInBounds_toArray, List.set_cons_zero, List.set_cons_succ]
  refine' take_run 3 6 (some 9) #[true, true, true, true, true, true, false, false, false, true, true, false, false, false] (v := _) rfl rfl rfl (by kernel_rfl) (by kernel_rfl) (by kernel_rfl) (fun _ _ _ h => h) rfl hS (fun wz hz => ?y6) ?r6
  case y6 => (go_simp; try with_reducible rfl)
  try simp only [Act.put, List.setIfInBounds_toArray, List.set_cons_zero, List.set_cons_succ]
  refine step_call 6 5 (some 12) #[true, true, true, true, true, true, true, false, false, true, true, false, false, false] 114 [.int .i64 (A : Nat)] rfl rfl rfl (by kernel_rfl) rfl rfl rfl Tryz.func114 rfl (by kernel_rfl) (itoa_ret _ A hAA) ?_
  rintro v w' hb rfl
  replace hS := hS.trans (Upd.of hb)
  replace hA := hA.trans (hb.mono hA.size)
  refine ⟨hS, ?_⟩
  try simp only [Act.put, List.setIfInBounds_toArray, List.set_cons_zero, List.set_cons_succ]
  refine' take_run 7 4 (some 13) #[true, true, true, true, true, true, true, true, false, true, true, false, false, false] (v := _) rfl rfl rfl (by kernel_rfl) (by kernel_rfl) (by kernel_rfl) (fun _ _ _ h => h) rfl hS (fun wz hz => ?y7) ?r7
  case y7 => (go_simp; try with_reducible rfl)
  try simp only [Act.put, List.setIfInBounds_toArray, List.set_cons_zero, List.set_cons_succ]
  refine' take_run 8 3 (some 14) #[true, true, true, true, true, true, true, true, true, true, true, false, false, false] (v := _) rfl rfl rfl (by kernel_rfl) (by kernel_rfl) (by kernel_rfl) (fun _ _ _ h => h) rfl hS (fun wz hz => ?y8) ?r8
  case y8 => (go_simp; try with_reducible rfl)
  try simp only [Act.put, List.setIfInBounds_toArray, List.set_cons_zero, List.set_cons_succ]
  refine step_call 11 2 (some 17) #[true, true, true, true, true, true, true, true, true, true, true, true, false, false] 114 [.int .i64 0] rfl rfl rfl (by kernel_rfl) rfl rfl rfl Tryz.func114 rfl (by kernel_rfl) (itoa_nought _) ?_
  rintro v w' hb rfl
  replace hS := hS.trans (Upd.of hb)
  replace hA := hA.trans (hb.mono hA.size)
  refine ⟨hS, ?_⟩
  try simp only [Act.put, List.setIfInBounds_toArray, List.set_cons_zero, List.set_cons_succ]
  refine' take_run 12 1 (some 18) #[true, true, true, true, true, true, true, true, true, true, true, true, true, false] (v := _) rfl rfl rfl (by kernel_rfl) (by kernel_rfl) (by kernel_rfl) (fun _ _ _ h => h) rfl hS (fun wz hz => ?y9) ?r9
  case y9 => (go_simp; try with_reducible rfl)
  try simp only [Act.put, List.setIfInBounds_toArray, List.set_cons_zero, List.set_cons_succ]
  refine step_callG 13 0 (some 19) #[true, true, true, true, true, true, true, true, true, true, true, true, true, true] 113 [.pointer (some ⟨w.heap.size + 1, 0, none⟩), .string (keyS A)] rfl rfl rfl (by kernel_rfl) rfl rfl rfl Tryz.func113 rfl (by kernel_rfl) (HWS.out _ hA) ?_
  rintro e w' ⟨rfl, hBA, hBb⟩
  replace hS := hS.trans (Upd.ofB hBb)
  refine ⟨_, rfl, hS, ?_⟩
  try simp only [Act.put, List.setIfInBounds_toArray, List.set_cons_zero, List.set_cons_succ]
  refine wpAnyH_done (by kernel_rfl) ?_ _
  have HBA := Lib.hid hBA
  have HB2 := Lib.hid hS
  have hz3 : w.heap.size < w'.heap.size := Nat.lt_of_lt_of_le hz0 HB2.out.size
  have e0 := (HB2.out.cell hz0 (by omega) 0).trans hc0_0
  have e1 := (HB2.out.cell hz0 (by omega) 1).trans hc0_1
  have e2 := (HB2.out.cell hz0 (by omega) 2).trans hc0_2
  have e3 := (HB2.out.cell hz0 (by omega) 3).trans hc0_3
  have e4 := (HB2.out.cell hz0 (by omega) 4).trans hc0_4
  have e5 := (HB2.out.cell hz0 (by omega) 5).trans hc0_5
  have e6 := (HB2.out.cell hz0 (by omega) 6).trans hc0_6
  have HBW := Lib.hid hBW
  have HDL := Lib.hid hdl
  clear hBA hBb hS hA hc0_0 hc0_1 hc0_2 hc0_3 hc0_4 hc0_5 hc0_6 hc1_0 hc1_1 hf0 hf1 hBW hn0 hn1 hn2 hn3 hz1 hdl
  go_wp2_with fail
  refine wp_loop_rounds 1 ?_
  rw [rounds_succ]
  go_wp2_with fail
  have HST : Hid (Calls Tryz.prog 116 #[.pointer (some ⟨w.heap.size + 1, 0, none⟩)] w'.drew fun e w2 => e = .returned (.string (keyS A)) ∧ Below (w.heap.size + 1) w'.drew w2) := by
    have := Tryz.Builder_String_any (w.heap.size + 1) (w.heap.size + 1) (keyS A).data.toList w'.drew (.inr HBA.out) (by show _ ≤ w'.heap.size; omega)
    exact this
  have HNF : Hid (¬ (w.heap.size + 1 ≤ w.heap.size)) := by show ¬ _; omega
  have hks : (keyS A).size ≤ 6 := by have := HDL.out; rw [keyS_size]; omega
  have hn4 : (9223372036854775807 < (keyS A).size + 1) = False := by simp; omega
  refine region_start (Upd (fun k => w.heap.size + 1 ≤ k) w') 8 #[false, false, false, false, false, false, false, false] (by kernel_rfl) rfl rfl (Upd.drew (Upd.refl _ _)) (fun hS => ?_)
  have hA : Below w'.heap.size w' w'.drew := (Below.refl _ _).drew
  refine' take_run 2 7 (some 41) #[false, false, true, false, false, false, false, false] (v := _) rfl rfl rfl (by kernel_rfl) (by kernel_rfl) (by kernel_rfl) (fun _ _ _ h => h) rfl hS (fun wz hz => ?y10) ?r10
  case y10 => (go_simp; try with_reducible rfl)
  try simp only [Act.put, List.setIfInBounds_toArray, List.set_cons_zero, List.set_cons_succ]
  refine' take_run 3 6 (some 42) #[false, false, true, true, false, false, false, false] (v := _) rfl rfl rfl (by kernel_rfl) (by kernel_rfl) (by kernel_rfl) (fun _ _ _ h => h) rfl hS (fun wz hz => ?y11) ?r11
  case y11 => (go_simp; try with_reducible rfl)
  try simp only [Act.put, List.setIfInBounds_toArray, List.set_cons_zero, List.set_cons_succ]
  refine' take_run 4 5 (some 43) #[false, false, true, true, true, false, false, false] (v := _) rfl rfl rfl (by kernel_rfl) (by kernel_rfl) (by kernel_rfl) (fun _ _ _ h => h) rfl hS (fun wz hz => ?y12) ?r12
  case y12 => (have q2 := (hz.cell hz3 HNF.out 2).trans e2; have q3 := (hz.cell hz3 HNF.out 3).trans e3; have q4 := (hz.cell hz3 HNF.out 4).trans e4; go_simp; try with_reducible rfl)
  try simp only [Act.put, List.setIfInBounds_toArray, List.set_cons_zero, List.set_cons_succ]
  refine step_callG 0 4 (some 39) #[true, false, true, true, true, false, false, false] 116 [.pointer (some ⟨w.heap.size + 1, 0, none⟩)] rfl rfl rfl (by kernel_rfl) rfl rfl rfl Tryz.func116 rfl (by kernel_rfl) (HST.out) ?_
  rintro e w' ⟨rfl, hb⟩
  replace hS := hS.trans (Upd.ofB hb)
  clear hb hA
  have hA := Below.refl w'.heap.size w'
  refine ⟨_, rfl, hS, ?_⟩
  try simp only [Act.put, List.setIfInBounds_toArray, List.set_cons_zero, List.set_cons_succ]
  refine' take_run 1 3 (some 40) #[true, true, true, true, true, false, false, false] (v := _) rfl rfl rfl (by kernel_rfl) (by kernel_rfl) (by kernel_rfl) (fun _ _ _ h => h) rfl hS (fun wz hz => ?y13) ?r13
  case y13 => (go_simp; try with_reducible rfl)
  try simp only [Act.put, List.setIfInBounds_toArray, List.set_cons_zero, List.set_cons_succ]
  refine step_call 5 2 (some 44) #[true, true, true, true, true, true, false, false] 115 [.agg #[.bool false, .slice none 0 0, .slice none 0 0]] rfl rfl rfl (by kernel_rfl) rfl rfl rfl Tryz.func115 rfl (by kernel_rfl) (ratText_zero _) ?_
  rintro v w' hb rfl
  replace hS := hS.trans (Upd.of hb)
  replace hA := hA.trans (hb.mono hA.size)
  refine ⟨hS, ?_⟩
  try simp only [Act.put, List.setIfInBounds_toArray, List.set_cons_zero, List.set_cons_succ]
  refine' take_run 6 1 (some 45) #[true, true, true, true, true, true, true, false] (v := _) rfl rfl rfl (by kernel_rfl) (by kernel_rfl) (by kernel_rfl) (fun _ _ _ h => h) rfl hS (fun wz hz => ?y14) ?r14
  case y14 => (go_simp; try with_reducible rfl)
  try simp only [Act.put, List.setIfInBounds_toArray, List.set_cons_zero, List.set_cons_succ]
  refine' take_run 7 0 (some 2) #[true, true, true, true, true, true, true, true] (v := _) rfl rfl rfl (by kernel_rfl) (by kernel_rfl) (by kernel_rfl) (fun _ _ _ h => h) rfl hS (fun wz hz => ?y15) ?r15
  case y15 => (go_simp; try with_reducible rfl)
  try simp only [Act.put, List.setIfInBounds_toArray, List.set_cons_zero, List.set_cons_succ]
  refine wpAnyH_done (by kernel_rfl) ?_ _
  go_wp2_with fail
  go_ret
  have HBF : Below w.heap.size w w' := HBW.out.trans ((HB2.out.trans hS).below (fun k hk hF => by omega) HBW.out.size)
  exact ⟨_, rfl, HBF, rfl⟩
end Go.Proofs.YtodeddappmfphaaGreatDoor
