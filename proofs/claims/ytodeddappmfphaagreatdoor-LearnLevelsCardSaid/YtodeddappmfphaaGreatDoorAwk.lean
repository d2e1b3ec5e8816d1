/- theodolitelaw25's awake. -/
import Derived.Test.YtodeddappmfphaaGreatDoorPrb
import Derived.Test.YtodeddappmfphaaGreatDoorRfd
namespace Go.Proofs.YtodeddappmfphaaGreatDoor
open Go.RowKit Go.Thd

set_option maxRecDepth 100000 in
set_option maxHeartbeats 2000000 in
theorem awake_ok (w : World) : Calls Tryz.prog 34 #[] w (Ret w fun v _ => v = .bool true) := by
  go_enter Tryz.func34, Tryz.ntmps34
  go_wp2_with fail
  obtain ⟨W, hW⟩ : ∃ W, (w.alloc (.cells #[.int .i64 1, .int .i64 0, .int .i64 2, .int .i64 0, .int .i64 3, .int .i64 0] 58)).alloc (.cells #[.int .i64 6, .slice none 0 0, .bool false, .slice none 0 0, .slice none 0 0, .int .i64 1, .int .i64 0, .int .i64 6, .slice none 0 0, .bool false, .slice none 0 0, .slice none 0 0, .int .i64 2, .int .i64 0, .int .i64 6, .slice none 0 0, .bool false, .slice none 0 0, .slice none 0 0, .int .i64 3, .int .i64 0] 51) = W := ⟨_, rfl⟩
  have hR0 : Res W w.heap.size [.int .i64 1, .int .i64 0, .int .i64 2, .int .i64 0, .int .i64 3, .int .i64 0] := by rw [← hW]; exact (Res.made w [.int .i64 1, .int .i64 0, .int .i64 2, .int .i64 0, .int .i64 3, .int .i64 0] _).alloc _
  have hR1 : Res W (w.heap.size + 1) [.int .i64 6, .slice none 0 0, .bool false, .slice none 0 0, .slice none 0 0, .int .i64 1, .int .i64 0, .int .i64 6, .slice none 0 0, .bool false, .slice none 0 0, .slice none 0 0, .int .i64 2, .int .i64 0, .int .i64 6, .slice none 0 0, .bool false, .slice none 0 0, .slice none 0 0, .int .i64 3, .int .i64 0] := by
    rw [← hW]; exact Res.at (cs := [.int .i64 6, .slice none 0 0, .bool false, .slice none 0 0, .slice none 0 0, .int .i64 1, .int .i64 0, .int .i64 6, .slice none 0 0, .bool false, .slice none 0 0, .slice none 0 0, .int .i64 2, .int .i64 0, .int .i64 6, .slice none 0 0, .bool false, .slice none 0 0, .slice none 0 0, .int .i64 3, .int .i64 0]) (by simp)
  have hB : Below w.heap.size w W := by rw [← hW]; exact ((Below.refl _ _).alloc (Nat.le_refl _) _).alloc (by simp) _
  have hP : Prob W w.heap.size 3 (w.heap.size + 1) 3 (idsL 3 1) 3 (fun j => j + 1) := prob_of (by omega) hR0.1 hR1.1
    (fun j hj => by
      match j, hj with
      | 0, _ => exact ⟨hR0.2.1 0 _ rfl, hR0.2.1 1 _ rfl⟩
      | 1, _ => exact ⟨hR0.2.1 2 _ rfl, hR0.2.1 3 _ rfl⟩
      | 2, _ => exact ⟨hR0.2.1 4 _ rfl, hR0.2.1 5 _ rfl⟩)
    (fun j hj => by
      match j, hj with
      | 0, _ => exact ⟨hR1.2.1 0 _ rfl, hR1.2.1 1 _ rfl, hR1.2.1 2 _ rfl, hR1.2.1 3 _ rfl, hR1.2.1 4 _ rfl, hR1.2.1 5 _ rfl, hR1.2.1 6 _ rfl⟩
      | 1, _ => exact ⟨hR1.2.1 7 _ rfl, hR1.2.1 8 _ rfl, hR1.2.1 9 _ rfl, hR1.2.1 10 _ rfl, hR1.2.1 11 _ rfl, hR1.2.1 12 _ rfl, hR1.2.1 13 _ rfl⟩
      | 2, _ => exact ⟨hR1.2.1 14 _ rfl, hR1.2.1 15 _ rfl, hR1.2.1 16 _ rfl, hR1.2.1 17 _ rfl, hR1.2.1 18 _ rfl, hR1.2.1 19 _ rfl, hR1.2.1 20 _ rfl⟩)
  rw [hW]
  have HB := Lib.hid hB
  have HP := Lib.hid hP
  clear hW hR0 hR1 hB hP
  refine (new_B W w.heap.size 3 (w.heap.size + 1) 3 3 1 HP.out (by omega) (by omega)).mono ?_
  rintro e w1 ⟨T1, rfl, hT⟩
  obtain ⟨bt, hbt⟩ : ∃ bt, T1.bt = bt := ⟨_, rfl⟩
  rw [hbt]
  have HT1 := Lib.hid hT
  have HBT1 := Lib.hid hbt
  clear hT hbt
  have hnn := @Lib.run_eql_slice_nil
  clear hnn
  go_wp2_with fail
  refine (decide_B HT1.out HBT1.out 3 (by unfold I64; omega) (by decide) (by decide) (by decide) (by decide)).mono ?_
  rintro e w2 ⟨rfl, T2, hT, hbt⟩
  have HT2 : Hid (TrB W.heap.size W w2 T2 SA1) := hT
  have HBT2 := Lib.hid hbt
  clear hT hbt HT1 HBT1
  go_wp2_with fail
  refine (decide_B HT2.out HBT2.out 1 (by unfold I64; omega) (by decide) (by decide) (by decide) (by decide)).mono ?_
  rintro e w3 ⟨rfl, T3, hT, hbt⟩
  have HT3 : Hid (TrB W.heap.size W w3 T3 SA2) := hT
  have HBT3 := Lib.hid hbt
  clear hT hbt HT2 HBT2
  go_wp2_with fail
  refine (force_B (HT3.out.alloc _) HBT3.out 2 (by unfold I64; omega) (by decide) (by decide) (by decide) _ 2 2 [2, -1] rfl (ints_new w3 [2, -1] _) (apart_alloc HT3.out.tr) (by decide) (fun x hx => by simp at hx; rcases hx with rfl | rfl <;> (unfold I64; omega)) (by decide) (fun x hx h2 => by simp at hx; rcases hx with rfl | rfl; exact absurd rfl h2; decide)).mono ?_
  rintro e w4 ⟨rfl, T4, hT, hbt⟩
  have HT4 : Hid (TrB W.heap.size W w4 T4 SA3) := hT
  have HBT4 := Lib.hid hbt
  clear hT hbt HT3 HBT3
  go_wp2_with fail
  refine (analyze_row_B (HT4.out.alloc _) HBT4.out SA3_row (by decide) _ 2 1 (by omega) (by omega) (-1) (-2) (.inr ⟨rfl, rfl⟩) (ints_new w4 [-1, -2] _)).mono ?_
  rintro e w5 ⟨v, rfl, hb, b5, c5, rfl, hi⟩
  have HT5 := Lib.hid ((HT4.out.alloc _).mono hb)
  have hi5 : Ints w5 (some ⟨b5, 0, none⟩) c5 [-1] := hi
  have HI5 := Lib.hid hi5
  clear hi5
  clear hb hi HT4
  go_wp2_with fail
  refine (analyze_state_B (HT5.out.alloc _) HBT4.out _ 1 1 (ints_new w5 [1] _) (by decide) (by unfold I64; omega) (by decide) (by decide)).mono ?_
  rintro e w6 ⟨v, rfl, hb, rfl⟩
  have HT6 := Lib.hid ((HT5.out.alloc _).mono hb)
  have HI6 := Lib.hid ((HI5.out.alloc _).mono hb)
  clear hb HT5 HI5
  go_wp2_with fail
  refine (analyze_always_B (HT6.out.alloc _) HBT4.out _ 2 1 (-1) (ints_new w6 [1, -1] _) (by decide) (by decide) (by unfold I64; omega) (by unfold I64; omega) (by decide) (by decide)).mono ?_
  rintro e w7 ⟨v, rfl, hb, rfl⟩
  have HT7 := Lib.hid ((HT6.out.alloc _).mono hb)
  have HI7 := Lib.hid ((HI6.out.alloc _).mono hb)
  clear hb HT6 HI6
  go_wp2_with fail
  refine (levels_B (HT7.out.alloc _) HBT4.out _ 2 2 [-3, -2] rfl (ints_new w7 [-3, -2] _) (by decide) (fun x hx => by simp at hx; rcases hx with rfl | rfl <;> (unfold I64; omega)) (fun i hi => by have := SA3_row.short i hi; omega) (fun x hx => by simp at hx; rcases hx with rfl | rfl <;> decide)).mono ?_
  rintro e w8 ⟨v, rfl, hb, a8, c8, rfl, hi⟩
  have hi8 : Ints w8 a8 c8 [1, 2] := hi
  have HT8 := Lib.hid ((HT7.out.alloc _).mono hb)
  have HI8 := Lib.hid ((HI7.out.alloc _).mono hb)
  have HJ8 := Lib.hid hi8
  clear hb hi hi8 HT7 HI7
  go_wp2_with fail
  refine (place_B HT8.out HBT4.out (-2) (by unfold I64; omega) (by decide)).mono ?_
  rintro e w9 ⟨v, rfl, hb, rfl⟩
  have he3 : ((SA3.ent ((-2 : Int).natAbs - 1) : Nat) : Int) = 3 := by decide
  rw [he3]
  clear he3
  have HT9 := Lib.hid (HT8.out.mono hb)
  have HI9 := Lib.hid (HI8.out.mono hb)
  have HJ9 := Lib.hid (HJ8.out.mono hb)
  clear hb HT8 HI8 HJ8
  go_wp2_with fail
  refine (place_none_B HT9.out HBT4.out 9 (by unfold I64; omega) (by decide)).mono ?_
  rintro e w10 ⟨v, rfl, hb, rfl⟩
  have HT10 := Lib.hid (HT9.out.mono hb)
  have HI10 := Lib.hid (HI9.out.mono hb)
  have HJ10 := Lib.hid (HJ9.out.mono hb)
  clear hb HT9 HI9 HJ9
  go_wp2_with fail
  refine (analyze_nil_B HT10.out HBT4.out).mono ?_
  rintro e w11 ⟨v, rfl, hb, rfl⟩
  have HT11 := Lib.hid (HT10.out.mono hb)
  have HI11 := Lib.hid (HI10.out.mono hb)
  have HJ11 := Lib.hid (HJ10.out.mono hb)
  clear hb HT10 HI10 HJ10
  go_wp2_with fail
  refine (ints_B _ _ _ 1 1 _ 1 [-1] [-1] rfl rfl (HI11.out.alloc _) (ints_new w11 [-1] _) (by decide) (by decide) true (by decide)).mono ?_
  rintro e w12 ⟨v, rfl, hb, rfl⟩
  have HT12 := Lib.hid ((HT11.out.alloc _).mono hb)
  have HJ12 := Lib.hid ((HJ11.out.alloc _).mono hb)
  clear hb HT11 HI11 HJ11
  go_wp2_with fail
  refine (ints_B _ _ _ 2 2 _ 2 [1, 2] [1, 2] rfl rfl (HJ12.out.alloc _) (ints_new w12 [1, 2] _) (by decide) (by decide) true (by decide)).mono ?_
  rintro e w13 ⟨v, rfl, hb, rfl⟩
  have HT13 := Lib.hid ((HT12.out.alloc _).mono hb)
  clear hb HT12 HJ12
  go_wp2_with fail
  refine (rOf_one _).mono ?_
  rintro e w14 ⟨v, rfl, hb, ra, rc, ra', rc', rfl, h1, h2⟩
  have HT14 := Lib.hid (HT13.out.mono hb)
  have H1 := Lib.hid h1
  have H2 := Lib.hid h2
  clear hb HT13 h1 h2
  go_wp2_with fail
  refine (rsign_one _ _ _ _ _ H1.out H2.out).mono ?_
  rintro e w15 ⟨v, rfl, hb, rfl⟩
  have HT15 := Lib.hid (HT14.out.mono hb)
  clear hb HT14
  go_wp2_with fail
  go_ret
  exact ⟨_, rfl, HB.out.trans (HT15.out.below.mono HB.out.size), rfl⟩
end Go.Proofs.YtodeddappmfphaaGreatDoor
