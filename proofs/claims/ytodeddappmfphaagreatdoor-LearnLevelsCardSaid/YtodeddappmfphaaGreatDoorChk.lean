/- cnf.vars, atoms, clauses, made, Check, of constants that are Bools and atoms that speak of one each. -/
import Derived.Test.YtodeddappmfphaaGreatDoorSor
import Derived.Test.YtodeddappmfphaaGreatDoorKey
import Derived.Test.YtodeddappmfphaaGreatDoorCnf
namespace Go.Proofs.YtodeddappmfphaaGreatDoor
open Go.RowKit Go.Thd

set_option maxRecDepth 100000 in
set_option maxHeartbeats 1000000 in
theorem vars_ok (w : World) (b off cap : Nat) (zs : List I6) (hlen : zs.length ≤ 100000) (hb : b < w.heap.size) (hI : VarsAt w b off zs)
    (hpos : ∀ j, j < zs.length → 0 ≤ (zs[j]?.getD i0).1) (hinc : ∀ j, j + 1 < zs.length → (zs[j]?.getD i0).1 < (zs[j + 1]?.getD i0).1) :
    Calls Tryz.prog 91 #[.slice (some ⟨b, off, none⟩) zs.length cap] w (Ret w fun v _ => v = .bool true) := by
  have HI := Lib.hid hI
  have HP := Lib.hid hpos
  have HC := Lib.hid hinc
  clear hI hpos hinc
  go_enter Tryz.func91, Tryz.ntmps91
  go_wp2_with fail
  go_loopw [7] (fun v wr => ∃ k : Nat, k ≤ zs.length ∧ v = .int .i64 (k : Int) ∧ Below w.heap.size w wr) (fun v _ => (zs.length - intOf v).toNat)
  case atStart => exact ⟨0, Nat.zero_le _, rfl, Below.refl _ _⟩
  case round =>
    obtain ⟨k, hk, rfl, hB⟩ := hrel
    have HB := Lib.hid hB
    clear hB
    by_cases h0 : k = zs.length
    · subst h0
      go_wp2_with fail
      go_ret
      exact ⟨_, rfl, HB.out, rfl⟩
    · have hk1 : k < zs.length := by omega
      obtain ⟨c1, c2⟩ := (HI.out.below HB.out hb) k hk1
      have hz : b < wr.heap.size := Nat.lt_of_lt_of_le hb HB.out.size
      obtain ⟨x, hx⟩ : ∃ x, (zs[k]?.getD i0).1 = x := ⟨_, rfl⟩
      have hx0 : 0 ≤ x := by rw [← hx]; exact HP.out k hk1
      rw [hx] at c1
      by_cases h1 : k = 0
      · subst h1
        simp only [Nat.zero_mul, Nat.add_zero] at c1 c2
        clear hx
        have e0 : ((0 : Nat) : Int) = 0 := rfl
        rw [e0]
        clear e0
        have hd1 : decide (x < 0) = false := by simp; omega
        go_wp2_with fail
        go_quiet (fail)
        go_wp2_with fail
        go_roundw
        case rel => exact ⟨1, by omega, by go_num, (HB.out.alloc HB.out.size _).drewN _⟩
        case measure => simp [intOf]; omega
      · obtain ⟨j, rfl⟩ : ∃ j, k = j + 1 := ⟨k - 1, by omega⟩
        obtain ⟨d1, d2⟩ := (HI.out.below HB.out hb) j (by omega)
        obtain ⟨y, hy⟩ : ∃ y, (zs[j]?.getD i0).1 = y := ⟨_, rfl⟩
        have hxy : y < x := by rw [← hx, ← hy]; exact HC.out j hk1
        rw [hy] at d1
        clear hx hy d2
        have hjj : ((j + 1 : Nat) : Int) - 1 = (j : Int) := by omega
        have hd1 : decide (x < 0) = false := by simp; omega
        have hd3 : decide (x ≤ y) = false := by simp; omega
        go_wp2_with fail
        go_quiet (fail)
        go_wp2_with fail
        go_roundw
        case rel => exact ⟨j + 1 + 1, by omega, by go_num, (HB.out.alloc HB.out.size _).drewN _⟩
        case measure => simp [intOf]; omega

theorem equal_nil (w : World) : Calls Tryz.prog 222 #[.slice none 0 0, .slice none 0 0] w (Ret w fun v _ => v = .bool true) := by
  go_enter Tryz.func222, Tryz.ntmps222
  go_wp2_with fail
  refine wp_loop_rounds 1 ?_
  rw [rounds_succ]
  go_wp2_with fail
  go_ret
  exact ⟨_, rfl, Below.refl _ _, rfl⟩

theorem alike_zero (w : World) : Calls Tryz.prog 182 #[.agg #[.bool false, .slice none 0 0, .slice none 0 0], .agg #[.bool false, .slice none 0 0, .slice none 0 0]] w (Ret w fun v _ => v = .bool true) := by
  go_enter Tryz.func182, Tryz.ntmps182
  go_wp2_with fail
  have HB := Lib.hid (((Below.refl w.heap.size w).alloc (Nat.le_refl _) (.cells #[.bool false, .slice none 0 0, .slice none 0 0] 44)).alloc (by simp) (.cells #[.bool false, .slice none 0 0, .slice none 0 0] 44))
  refine (equal_nil _).mono ?_
  rintro e w1 ⟨v, rfl, hb, rfl⟩
  have hAc := bcell hb
  have hb1 := hb
  have HB1 := Lib.hid (HB.out.trans (hb.mono HB.out.size))
  clear hb
  go_wp2_with fail
  refine (equal_nil _).mono ?_
  rintro e w2 ⟨v, rfl, hb, rfl⟩
  have HB2 := Lib.hid (HB1.out.trans (hb.mono HB1.out.size))
  clear hb hb1 hAc
  go_wp2_with fail
  go_ret
  exact ⟨_, rfl, HB2.out, rfl⟩

theorem equalFunc_nil (w : World) (v : Value) : Calls Tryz.prog 183 #[.slice none 0 0, .slice none 0 0, v] w (Ret w fun v _ => v = .bool true) := by
  go_enter Tryz.func183, Tryz.ntmps183
  go_wp2_with fail
  refine wp_loop_rounds 1 ?_
  rw [rounds_succ]
  go_wp2_with fail
  go_ret
  exact ⟨_, rfl, Below.refl _ _, rfl⟩

theorem same_zero (w : World) : Calls Tryz.prog 154 #[.agg #[.slice none 0 0, .bool false, .slice none 0 0, .slice none 0 0], .agg #[.slice none 0 0, .bool false, .slice none 0 0, .slice none 0 0]] w (Ret w fun v _ => v = .bool true) := by
  go_enter Tryz.func154, Tryz.ntmps154
  go_wp2_with fail
  have HB := Lib.hid (((Below.refl w.heap.size w).alloc (Nat.le_refl _) (.cells #[.slice none 0 0, .bool false, .slice none 0 0, .slice none 0 0] 49)).alloc (by simp) (.cells #[.slice none 0 0, .bool false, .slice none 0 0, .slice none 0 0] 49))
  refine (alike_zero _).mono ?_
  rintro e w1 ⟨v, rfl, hb, rfl⟩
  have hAc := bcell hb
  have HB1 := Lib.hid (HB.out.trans (hb.mono HB.out.size))
  clear hb
  go_wp2_with fail
  refine (equalFunc_nil _ _).mono ?_
  rintro e w2 ⟨v, rfl, hb, rfl⟩
  have HB2 := Lib.hid (HB1.out.trans (hb.mono HB1.out.size))
  clear hb hAc
  go_wp2_with fail
  go_ret
  exact ⟨_, rfl, HB2.out, rfl⟩

theorem bare_zero (w : World) : Calls Tryz.prog 112 #[.agg #[.slice none 0 0, .bool false, .slice none 0 0, .slice none 0 0]] w (Ret w fun v _ => v = .bool true) := by
  go_enter Tryz.func112, Tryz.ntmps112
  go_wp2_with fail
  have HB := Lib.hid ((Below.refl w.heap.size w).alloc (Nat.le_refl _) (.cells #[.slice none 0 0, .bool false, .slice none 0 0, .slice none 0 0] 49))
  refine (same_zero _).mono ?_
  rintro e w1 ⟨v, rfl, hb, rfl⟩
  have HB1 := Lib.hid (HB.out.trans (hb.mono HB.out.size))
  clear hb
  go_wp2_with fail
  go_ret
  exact ⟨_, rfl, HB1.out, rfl⟩

theorem sum_holds (w : World) : Calls Tryz.prog 109 #[.int .i64 6] w (RetS w fun v => v = .bool false) := by
  go_enter Tryz.func109, Tryz.ntmps109
  go_wp2_with fail
  go_ret
  exact ⟨_, rfl, rfl, rfl⟩

set_option maxRecDepth 100000 in
theorem valid_holds (w : World) (A : Int) (hA : 0 ≤ A) : Calls Tryz.prog 62 #[.agg #[.int .i64 6, .slice none 0 0, .bool false, .slice none 0 0, .slice none 0 0, .int .i64 A, .int .i64 0]] w (Ret w fun v _ => v = .bool true) := by
  go_enter Tryz.func62, Tryz.ntmps62
  go_wp2_with fail
  refine (sum_holds _).mono ?_
  rintro e w1 ⟨v, rfl, rfl, rfl⟩
  go_wp2_with fail
  refine (bare_zero _).mono ?_
  rintro e w1 ⟨v, rfl, hb, rfl⟩
  have HB1 := Lib.hid (((Below.refl w.heap.size w).alloc (Nat.le_refl _) (.cells #[.int .i64 6, .slice none 0 0, .bool false, .slice none 0 0, .slice none 0 0, .int .i64 A, .int .i64 0] 51)).trans (hb.mono (by simp)))
  clear hb
  go_wp2_with fail
  go_ret
  exact ⟨_, rfl, HB1.out, rfl⟩
end Go.Proofs.YtodeddappmfphaaGreatDoor
