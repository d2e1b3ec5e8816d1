/- cnf's Vars and Speaks at an atom that speaks of a Bool; linear.Copy of nought. -/
import Derived.Test.YtodeddappmfphaaGreatDoorEnt
namespace Go.Proofs.YtodeddappmfphaaGreatDoor
open Go.RowKit Go.Thd

set_option maxRecDepth 100000 in
theorem vars_holds (w : World) (A : Int) : Calls Tryz.prog 97 #[.agg #[.int .i64 6, .slice none 0 0, .bool false, .slice none 0 0, .slice none 0 0, .int .i64 A, .int .i64 0]] w
    (Ret w fun v w' => ∃ b, v = .slice (some ⟨b, 0, none⟩) 1 1 ∧ w.heap.size ≤ b ∧ b < w'.heap.size ∧ w'.cell? ⟨b, 0, none⟩ = some (.int .i64 A)) := by
  go_enter Tryz.func97, Tryz.ntmps97
  go_wp2_with fail
  go_ret
  refine ⟨_, rfl, ((Below.refl _ _).alloc (Nat.le_refl _) _).alloc (by simp) _, w.heap.size + 1, rfl, by omega, by simp, by simp [go_sem]⟩

set_option maxRecDepth 100000 in
theorem copy_zero (w : World) : Calls Tryz.prog 96 #[.agg #[.slice none 0 0, .bool false, .slice none 0 0, .slice none 0 0]] w (Ret w fun v _ => v = .agg #[.slice none 0 0, .bool false, .slice none 0 0, .slice none 0 0]) := by
  go_enter Tryz.func96, Tryz.ntmps96
  go_wp2_with fail
  obtain ⟨W, hW⟩ : ∃ W, (w.alloc (.cells #[.slice none 0 0, .bool false, .slice none 0 0, .slice none 0 0] 49)).alloc (.cells #[.slice none 0 0, .bool false, .slice none 0 0, .slice none 0 0] 49) = W := ⟨_, rfl⟩
  have hBW : Below w.heap.size w W := by rw [← hW]; exact ((Below.refl _ _).alloc (Nat.le_refl _) _).alloc (by simp) _
  have hz : w.heap.size + 1 < W.heap.size := by rw [← hW]; simp
  have hz0 : w.heap.size < W.heap.size := by omega
  have hc0 : W.cell? ⟨w.heap.size, 0, none⟩ = some (.slice none 0 0) := by rw [← hW]; simp [go_sem]
  have hd0 : W.cell? ⟨w.heap.size + 1, 0, none⟩ = some (.slice none 0 0) := by rw [← hW]; simp [go_sem]
  have hd1 : W.cell? ⟨w.heap.size + 1, 1, none⟩ = some (.bool false) := by rw [← hW]; simp [go_sem]
  have hd2 : W.cell? ⟨w.heap.size + 1, 2, none⟩ = some (.slice none 0 0) := by rw [← hW]; simp [go_sem]
  have hd3 : W.cell? ⟨w.heap.size + 1, 3, none⟩ = some (.slice none 0 0) := by rw [← hW]; simp [go_sem]
  have hf1 : ∀ o, W.frozen? ⟨w.heap.size + 1, o, none⟩ = false := by intro o; rw [← hW]; simp [go_sem]
  rw [hW]
  clear hW
  with_reducible refine (own_zero W).mono ?_
  rintro e w1 ⟨v, rfl, hb, rfl⟩
  have hAc := bcell hb
  have HB := Lib.hid (hBW.trans (hb.mono hBW.size))
  go_wp2_with fail
  refine wp_loop_rounds 1 ?_
  rw [rounds_succ]
  go_wp2_with fail
  have k0 : w1.cell? ⟨w.heap.size + 1, 0, none⟩ = some (.slice none 0 0) := (hAc.1 _ _ hz).trans hd0
  have k1 : w1.cell? ⟨w.heap.size + 1, 1, none⟩ = some (.bool false) := (hAc.1 _ _ hz).trans hd1
  have k2 : w1.cell? ⟨w.heap.size + 1, 2, none⟩ = some (.slice none 0 0) := (hAc.1 _ _ hz).trans hd2
  have k3 : w1.cell? ⟨w.heap.size + 1, 3, none⟩ = some (.slice none 0 0) := (hAc.1 _ _ hz).trans hd3
  rw [setCell_same k1, setCell_same k2, setCell_same k3, setCell_same k0, setCell_same k1, setCell_same k2, setCell_same k3]
  clear hAc hd0 hd1 hd2 hd3 hf1
  exact bodyPost_ret (v := .agg #[.slice none 0 0, .bool false, .slice none 0 0, .slice none 0 0]) (by simp [results, Tryz.results96, go_sem, k0, k1, k2, k3]) rfl ⟨_, rfl, HB.out, rfl⟩

/-- Does such an atom speak of a Bool? -/
def spk (f : Int → Option Value) (A : Int) : Bool := match f A with | some (.int .i64 s) => s == 0 | _ => false

set_option maxRecDepth 100000 in
theorem speaks_ok (w : World) (A : Int) (hA : I64 A) (bm nm : Nat) (f : Int → Option Value) (hM : MapV w Tryz.prog 3 bm nm (onI f)) (hf : f A = some (.int .i64 0)) :
    Calls Tryz.prog 63 #[.agg #[.int .i64 6, .slice none 0 0, .bool false, .slice none 0 0, .slice none 0 0, .int .i64 A, .int .i64 0], .map (some bm)] w
    (Ret w fun v _ => v = .bool true) := by
  have HK := key_int (k := 3) Tryz.underlying3 hA
  have HF : onI f (.int .i64 A) = some (.int .i64 0) := hf
  go_enter Tryz.func63, Tryz.ntmps63
  go_wp2_with fail
  with_reducible refine (vars_holds _ A).mono ?_
  rintro e w1 ⟨v, rfl, hb, b, rfl, hbb, hlt, h0⟩
  have hB0 : Below w.heap.size w (w.alloc (.cells #[.int .i64 6, .slice none 0 0, .bool false, .slice none 0 0, .slice none 0 0, .int .i64 A, .int .i64 0] 51)) := (Below.refl _ _).alloc (Nat.le_refl _) _
  have d0 : w1.cell? ⟨w.heap.size, 0, none⟩ = some (.int .i64 6) := (hb.cell (p := ⟨w.heap.size, 0, none⟩) (by simp)).trans (by simp [go_sem])
  have HB := Lib.hid (hB0.trans (hb.mono hB0.size))
  have hM1 : MapV w1 Tryz.prog 3 bm nm (onI f) := (hM.mono hB0).mono hb
  have r1 := hM1.look_ok (t := 97) (Maps.int_keyed Tryz.underlying3) Tryz.underlying97 (Tryz.zeroValue3 _) HK
  have r2 := hM1.look (t := 97) (Maps.int_keyed Tryz.underlying3) Tryz.underlying97 (Tryz.zeroValue3 _) HK
  rw [HF] at r1 r2
  have r1' : (Instr.lookup 97 (.map (some bm)) (.int .i64 A) true).run Tryz.prog w1 = .ok (.tuple #[.int .i64 0, .bool true]) w1 := r1
  have r2' : (Instr.lookup 97 (.map (some bm)) (.int .i64 A) false).run Tryz.prog w1 = .ok (.int .i64 0) w1 := r2
  clear hb hB0 hM1 r1 r2 HF HK hM hf
  go_wp2_with fail
  refine wp_loop_rounds 2 ?_
  rw [rounds_succ]
  go_wp2_with fail
  rw [rounds_succ]
  go_wp2_with fail
  go_ret
  exact ⟨_, rfl, HB.out, rfl⟩
end Go.Proofs.YtodeddappmfphaaGreatDoor
