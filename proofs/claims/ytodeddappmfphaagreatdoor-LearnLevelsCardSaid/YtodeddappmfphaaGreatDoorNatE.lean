/- Walks of package nat: Quot and Common of numbers of one limb. -/
import Derived.Test.YtodeddappmfphaaGreatDoorNatD
namespace Go.Proofs.YtodeddappmfphaaGreatDoor
open Go.RowKit Go.Thd

set_option maxRecDepth 100000 in
theorem quot_less (w : World) (a a' : Option Addr) (c c' x y : Nat) (hx : Num w a c x) (hy : Num w a' c' y) (hn : nl x ≤ 65536) (hlt : x < y) :
    Calls Tryz.prog 165 #[.slice a (nl x) c, .slice a' (nl y) c'] w (Ret w fun v w' => ∃ a c, v = .tuple #[.slice none 0 0, .slice a (nl x) c] ∧ Num w' a c x ∧ Fresh w a) := by
  have hc : cmpI x y = -1 := by simp [cmpI]; omega
  have HC := natOrder_any w a a' c c' x y hx hy hn
  rw [hc] at HC
  have HC' := Lib.hid HC
  clear HC hc
  go_enter Tryz.func165, Tryz.ntmps165
  go_wp2_with fail
  refine HC'.out.mono ?_
  rintro e w' ⟨rfl, nq, rfl⟩
  go_wp2_with fail
  refine (trim_self _ a c x (hx.mono ((Below.refl _ _).drewN nq)) (by omega)).mono ?_
  rintro e w' ⟨v, rfl, rfl, a1, c1, rfl, hN1⟩
  go_wp2_with fail
  refine (clone_num _ a1 c1 x hN1 (by omega)).mono ?_
  rintro e w' ⟨v, rfl, hB, a2, c2, rfl, hN2, hF2⟩
  go_wp2_with fail
  go_ret2
  exact ⟨_, rfl, ((Below.refl _ _).drewN nq).trans hB, _, _, rfl, hN2, hF2⟩

set_option maxRecDepth 100000 in
theorem quot_small (w : World) (a a' : Option Addr) (c c' x y : Nat) (hx : Num w a c x) (hy : Num w a' c' y) (hxB : x < B64) (hle : y ≤ x) (hy0 : y ≠ 0) :
    Calls Tryz.prog 165 #[.slice a (nl x) c, .slice a' (nl y) c'] w (Ret w fun v w' => ∃ a c a' c', v = .tuple #[.slice a (nl (x / y)) c, .slice a' (nl (x % y)) c'] ∧ Num w' a c (x / y) ∧ Num w' a' c' (x % y) ∧ Fresh w a ∧ Fresh w a') := by
  have hyB : y < B64 := by omega
  have hn1 : nl x ≤ 65536 := by rw [nl_small (by omega) hxB]; omega
  have HC := natOrder_any w a a' c c' x y hx hy hn1
  obtain ⟨z, hz⟩ : ∃ z, cmpI x y = z := ⟨_, rfl⟩
  have hz0 : ¬ z < 0 := by rw [← hz]; simp only [cmpI]; split <;> (try split) <;> omega
  rw [hz] at HC
  have HC' := Lib.hid HC
  clear HC hz
  obtain ⟨b, off, rfl, hlt, hcy⟩ := hy.2.resolve_left hy0
  have hny := nl_small hy0 hyB
  have hc0 := hcy 0 (by omega)
  rw [dig_zero hyB, Nat.add_zero] at hc0
  clear hcy
  rw [hny] at HC' ⊢
  have hr : x % y < B64 := Nat.lt_of_le_of_lt (Nat.mod_le _ _) hxB
  obtain ⟨q, hq⟩ : ∃ q, x / y = q := ⟨_, rfl⟩
  obtain ⟨r, hrr⟩ : ∃ r, x % y = r := ⟨_, rfl⟩
  have HX := Lib.hid hxB
  have HQ := Lib.hid hq
  have HR := Lib.hid hrr
  rw [hrr] at hr ⊢
  rw [hq]
  have HRB := Lib.hid hr
  clear hxB hyB hny hq hrr hr
  go_enter Tryz.func165, Tryz.ntmps165
  go_wp2_with fail
  refine HC'.out.mono ?_
  rintro e w' ⟨rfl, nq, rfl⟩
  go_wp2_with fail
  have HBL := byLimb_small (w.drewN nq) a c x y (hx.mono ((Below.refl _ _).drewN nq)) HX.out (by omega)
  rw [HQ.out, HR.out] at HBL
  refine HBL.mono ?_
  rintro e w1 ⟨v, rfl, hB1, aq, cq, rfl, hNq, hFq⟩
  go_wp2_with fail
  refine (trim_own (fun _ => r) _ w1.heap.size 1 (by omega) (Own.lit _ _ _ _ _ (by intro i hi; obtain rfl : i = 0 := (by omega); rfl)) (fun _ _ => HRB.out) r (by simp [val])).mono ?_
  rintro e w' ⟨a2, c2, rfl, hN, hfr, rfl⟩
  go_wp2_with fail
  go_ret2
  have hB2 := (Below.refl w1.heap.size w1).alloc (Nat.le_refl _) (.cells #[.int .u64 (r : Int)] 107)
  exact ⟨_, rfl, ((Below.refl w.heap.size w).drewN nq).trans ((hB1.mono (Nat.le_refl _)).trans (hB2.mono hB1.size)), _, _, _, _, rfl, hNq.mono hB2, hN, hFq, fun p hp => by rw [hfr p hp]; exact hB1.size⟩

/-- A quotient and a rest, of numbers of one limb. -/
theorem quot_any (w : World) (a a' : Option Addr) (c c' x y : Nat) (hx : Num w a c x) (hy : Num w a' c' y) (hxB : x < B64) (hy0 : y ≠ 0) :
    Calls Tryz.prog 165 #[.slice a (nl x) c, .slice a' (nl y) c'] w (Ret w fun v w' => ∃ a c a' c', v = .tuple #[.slice a (nl (x / y)) c, .slice a' (nl (x % y)) c'] ∧ Num w' a c (x / y) ∧ Num w' a' c' (x % y) ∧ Fresh w a ∧ Fresh w a') := by
  by_cases h : x < y
  · have hn1 : nl x ≤ 65536 := by
      by_cases h0 : x = 0
      · rw [h0, nl_zero]; omega
      · rw [nl_small h0 hxB]; omega
    refine (quot_less w a a' c c' x y hx hy hn1 h).mono ?_
    rintro e w' ⟨v, rfl, hB, a1, c1, rfl, hN, hF⟩
    refine ⟨_, rfl, hB, none, 0, a1, c1, ?_, ?_, ?_, Fresh.none _, hF⟩
    · rw [Nat.div_eq_of_lt h, Nat.mod_eq_of_lt h, nl_zero]
    · rw [Nat.div_eq_of_lt h]; exact Num.zero _ _ _
    · rw [Nat.mod_eq_of_lt h]; exact hN
  · exact quot_small w a a' c c' x y hx hy hxB (by omega) hy0

set_option maxRecDepth 100000 in
/-- The greatest common divisor, of numbers of one limb. -/
theorem common_any (w : World) (a a' : Option Addr) (c c' x y : Nat) (hx : Num w a c x) (hy : Num w a' c' y) (hxB : x < B64) (hyB : y < B64) :
    Calls Tryz.prog 121 #[.slice a (nl x) c, .slice a' (nl y) c'] w (Ret w fun v w' => ∃ a c, v = .slice a (nl (Nat.gcd x y)) c ∧ Num w' a c (Nat.gcd x y) ∧ Fresh w a) := by
  go_enter Tryz.func121, Tryz.ntmps121
  go_wp2_with fail
  go_loopw [0, 1] (fun s0 s1 wr => ∃ (x' y' : Nat) (a c a' c' : _), s0 = .slice a (nl x') c ∧ s1 = .slice a' (nl y') c' ∧ Num wr a c x' ∧ Num wr a' c' y' ∧ x' < B64 ∧ y' < B64 ∧ Nat.gcd x' y' = Nat.gcd x y ∧ Below w.heap.size w wr) (fun _ s1 wr => readN wr s1)
  case atStart => exact ⟨x, y, a, c, a', c', rfl, rfl, hx, hy, hxB, hyB, rfl, Below.refl _ _⟩
  case round =>
    clear hxB hyB hx hy
    obtain ⟨x1, y1, a1, c1, a2, c2, rfl, rfl, hx1, hy1, hxB, hyB, hg, hB⟩ := hrel
    have HG := Lib.hid hg
    have HX := Lib.hid hxB
    have HY := Lib.hid hyB
    have HM := Lib.hid (readN_num hy1)
    clear hg hxB hyB
    by_cases h0 : y1 = 0
    · subst h0
      have hn1 : nl x1 ≤ 1000000 := by
        by_cases h0 : x1 = 0
        · rw [h0, nl_zero]; omega
        · rw [nl_small h0 HX.out]; omega
      rw [nl_zero]
      have HG' : Hid (x1 = Nat.gcd x y) := by
        show x1 = Nat.gcd x y
        rw [← HG.out, Nat.gcd_zero_right]
      clear HM
      go_wp2_with fail
      refine (clone_num wr a1 c1 x1 hx1 hn1).mono ?_
      rintro e w' ⟨v, rfl, hB1, a3, c3, rfl, hN, hF⟩
      go_wp2_with fail
      go_ret
      rw [← HG'.out]
      exact ⟨_, rfl, hB.trans (hB1.mono hB.size), _, _, rfl, hN, hF.of hB.size⟩
    · have hn1 : nl y1 = 1 := nl_small h0 HY.out
      have HQ := Lib.hid (quot_any wr a1 a2 c1 c2 x1 y1 hx1 hy1 HX.out h0)
      rw [hn1] at HQ HM ⊢
      clear hn1
      have HG' : Hid (Nat.gcd y1 (x1 % y1) = Nat.gcd x y) := by
        show Nat.gcd y1 (x1 % y1) = Nat.gcd x y
        rw [← HG.out, Nat.gcd_comm x1 y1, Nat.gcd_rec y1 x1, Nat.gcd_comm]
      have HL : Hid (x1 % y1 < y1) := Nat.mod_lt _ (by omega)
      go_wp2_with fail
      refine HQ.out.mono ?_
      rintro e w' ⟨v, rfl, hB1, a3, c3, a4, c4, rfl, hN3, hN4, _⟩
      go_wp2_with fail
      go_roundw
      case rel => exact ⟨y1, x1 % y1, _, _, _, _, by rw [nl_small h0 HY.out], rfl, hy1.mono hB1, hN4, HY.out, Nat.lt_trans HL.out HY.out, HG'.out, hB.trans (hB1.mono hB.size)⟩
      case measure =>
        show readN _ (.slice a4 (nl (x1 % y1)) c4) < readN wr _
        rw [readN_num hN4]
        exact Nat.lt_of_lt_of_eq HL.out HM.out.symm
end Go.Proofs.YtodeddappmfphaaGreatDoor
