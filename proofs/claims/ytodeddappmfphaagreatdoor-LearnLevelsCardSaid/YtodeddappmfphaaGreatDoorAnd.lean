/- learn's Analyze of one literal of a row. -/
import Derived.Test.YtodeddappmfphaaGreatDoorAnc
namespace Go.Proofs.YtodeddappmfphaaGreatDoor
open Go.RowKit Go.Thd

set_option maxRecDepth 100000 in
set_option maxHeartbeats 2000000 in
theorem analyze_one {w : World} {T : TA} {S : St} {n P : Nat} {L : Int} (h : Tr w T S) (hR : Row S n P L) (hL : L ≤ 1000) (a : Option Addr) (c : Nat) (hn1 : 1 ≤ n) (hl : Ints w a c [-(n : Int)]) :
    Calls Tryz.prog 36 #[.pointer (some ⟨T.bt, 0, none⟩), .slice a 1 c] w (Ret w fun v w' => ∃ b c, v = .tuple #[.slice (some ⟨b, 0, none⟩) 1 c, .int .i64 0, .int .i64 0] ∧ Ints w' (some ⟨b, 0, none⟩) c [-(n : Int)]) := by
  have hsm := hR.small
  have HT := Lib.hid h
  have HR := Lib.hid hR
  have HL := Lib.hid hl
  have hI : ∀ i : Nat, i ≤ n → I64 (-(i : Int)) := fun i hi => by unfold I64; omega
  have HI := Lib.hid hI
  have hLp := hR.pos
  clear h hR hl hI
  go_enter Tryz.func36, Tryz.ntmps36
  go_wp2_with fail
  obtain ⟨W, hW⟩ : ∃ W, w.alloc (.cells #[.pointer (some ⟨T.bt, 0, none⟩)] 33) = W := ⟨_, rfl⟩
  have hBW : Below w.heap.size w W := by rw [← hW]; exact (Below.refl _ _).alloc (Nat.le_refl _) _
  have hz : w.heap.size < W.heap.size := by rw [← hW]; simp
  have hc : W.cell? ⟨w.heap.size, 0, none⟩ = some (.pointer (some ⟨T.bt, 0, none⟩)) := by rw [← hW]; simp [go_sem]
  rw [hW]
  clear hW
  have HBW := Lib.hid hBW
  with_reducible refine (norm_one a c (-(n : Int)) (HL.out.mono hBW) (by omega)).mono ?_
  rintro e w1 ⟨v, rfl, hb, b, c1, rfl, h2c, _, hblt, k0⟩
  have d0 : w1.cell? ⟨w.heap.size, 0, none⟩ = some (.pointer (some ⟨T.bt, 0, none⟩)) := (hb.cell (p := ⟨w.heap.size, 0, none⟩) hz).trans hc
  have hz1 : w.heap.size < w1.heap.size := Nat.lt_of_lt_of_le hz hb.size
  have HB1 := Lib.hid (HBW.out.trans (hb.mono HBW.out.size))
  have HL1 : Hid (Ints w1 (some ⟨b, 0, none⟩) c1 [-(n : Int)]) := ⟨h2c, .inr ⟨b, 0, rfl, hblt, fun j hj => by
    match j, hj with
    | 0, _ => exact k0⟩⟩
  have HMEM : Hid (∀ y : Int, y ∈ [-(n : Int)] → ∃ i : Nat, y = -(i : Int) ∧ 1 ≤ i ∧ i ≤ n) := fun y hy => by
    simp at hy
    exact ⟨n, hy, hn1, Nat.le_refl _⟩
  clear hb hc hz hBW k0
  go_wp2_with fail
  refine (containsFunc_any w1 (some ⟨b, 0, none⟩) c1 [-(n : Int)] HL1.out (by simp) 83 #[.pointer (some ⟨w.heap.size, 0, none⟩)] (fun _ => false) Tryz.func83 rfl (by kernel_rfl)
    (fun w2 y hy hb => by
      obtain ⟨i, rfl, h1, h2⟩ := HMEM.out y hy
      have hinn := HR.out.inn
      exact an1_any ((HT.out.mono HB1.out).mono hb) w.heap.size _ ((hb.cell (p := ⟨w.heap.size, 0, none⟩) hz1).trans d0) (HI.out i h2) (by omega) (by omega))).mono ?_
  rintro e w2 ⟨v, rfl, hb2, rfl⟩
  have e0 : w2.cell? ⟨w.heap.size, 0, none⟩ = some (.pointer (some ⟨T.bt, 0, none⟩)) := (hb2.cell (p := ⟨w.heap.size, 0, none⟩) hz1).trans d0
  have hz2 : w.heap.size < w2.heap.size := Nat.lt_of_lt_of_le hz1 hb2.size
  have HB2 := Lib.hid (HB1.out.trans (hb2.mono HB1.out.size))
  have HL2 := Lib.hid (HL1.out.mono hb2)
  clear hb2
  go_wp2_with fail
  refine (containsFunc_any w2 (some ⟨b, 0, none⟩) c1 [-(n : Int)] HL2.out (by simp) 85 #[.pointer (some ⟨w.heap.size, 0, none⟩)] (fun y => S.val y != -1) Tryz.func85 rfl (by kernel_rfl)
    (fun w3 y hy hb => by
      obtain ⟨i, rfl, h1, h2⟩ := HMEM.out y hy
      exact an2_any ((HT.out.mono HB2.out).mono hb) w.heap.size _ ((hb.cell (p := ⟨w.heap.size, 0, none⟩) hz2).trans e0) (HI.out i h2))).mono ?_
  rintro e w3 ⟨v, rfl, hb3, rfl⟩
  have f0 : w3.cell? ⟨w.heap.size, 0, none⟩ = some (.pointer (some ⟨T.bt, 0, none⟩)) := (hb3.cell (p := ⟨w.heap.size, 0, none⟩) hz2).trans e0
  have hz3 : w.heap.size < w3.heap.size := Nat.lt_of_lt_of_le hz2 hb3.size
  have HB3 := Lib.hid (HB2.out.trans (hb3.mono HB2.out.size))
  have HL3 := Lib.hid (HL2.out.mono hb3)
  have hany : ([-(n : Int)].any fun y => S.val y != -1) = false := by
    simp [HR.out.val n (by omega) (Nat.le_refl _)]
  rw [hany]
  clear hb3 hany d0 e0
  go_wp2_with fail
  refine wp_loop_rounds 1 ?_
  rw [rounds_succ]
  go_wp2_with fail
  have hI1 : ∀ x ∈ [-(n : Int)], I64 x := fun x hx => by simp at hx; subst hx; exact HI.out n (Nat.le_refl _)
  refine (levels_any (HT.out.mono HB3.out) _ c1 [-(n : Int)] HL3.out (by simp) hI1 (fun i hi => by have := HR.out.short i hi; omega)).mono ?_
  rintro e w4 ⟨v, rfl, hb4, hO, _⟩
  have hmp : [-(n : Int)].map S.level = [L] := by simp [HR.out.lev n hn1 (Nat.le_refl _)]
  rw [hmp] at hO
  obtain ⟨b4, c4, rfl, _, _, _, hcell4, _⟩ := OwnI.row hO (by simp)
  have q0 : w4.cell? ⟨b4, 0, none⟩ = some (.int .i64 L) := hcell4 0 (by simp)
  have HB4 := Lib.hid (HB3.out.trans (hb4.mono HB3.out.size))
  have g4 : w4.cell? ⟨w.heap.size, 0, none⟩ = some (.pointer (some ⟨T.bt, 0, none⟩)) := (hb4.cell (p := ⟨w.heap.size, 0, none⟩) hz3).trans f0
  have HI4 := Lib.hid (HL3.out.mono hb4)
  clear hb4 hO hcell4 hmp hI1 f0
  go_wp2_with fail
  refine (count_one w4 b4 c4 L q0).mono ?_
  rintro e w5 ⟨v, rfl, hb5, rfl⟩
  have HB5 := Lib.hid (HB4.out.trans (hb5.mono HB4.out.size))
  have g5 : w5.cell? ⟨w.heap.size, 0, none⟩ = some (.pointer (some ⟨T.bt, 0, none⟩)) := (hb5.cell (p := ⟨w.heap.size, 0, none⟩) (World.block_lt_of_cell? w4 ⟨w.heap.size, 0, none⟩ g4)).trans g4
  have HI5 := Lib.hid (HI4.out.mono hb5)
  clear hb5 g4 q0
  go_wp2_with fail
  refine (forced_ex (HT.out.mono HB5.out) HR.out b c1 n hn1 (Nat.le_refl _) HI5.out).mono ?_
  rintro e w6 ⟨v, rfl, hb6, l6, a6, n6, c6, o6, rfl⟩
  have HB6 := Lib.hid (HB5.out.trans (hb6.mono HB5.out.size))
  have HI6 := Lib.hid (HI5.out.mono hb6)
  have hLne : (L == 0) = false := by simp; omega
  clear hb6 g5
  go_wp2_with fail
  exact bodyPost_ret (v := .tuple #[.slice (some ⟨b, 0, none⟩) 1 c1, .int .i64 0, .int .i64 0]) (by simp [results, Tryz.results36, go_sem]) rfl ⟨_, rfl, HB6.out, b, c1, rfl, HI6.out⟩
end Go.Proofs.YtodeddappmfphaaGreatDoor
