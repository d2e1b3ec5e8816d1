/- Walks of package rat: Valid. -/
import Derived.Test.YtodeddappmfphaaGreatDoorNatE
import Derived.Deep.RegionHeld3
namespace Go.Proofs.YtodeddappmfphaaGreatDoor
open Go.RowKit Go.Thd

theorem natValid_num (w : World) (a : Option Addr) (c x : Nat) (hx : Num w a c x) (hn : nl x ≤ 64) :
    Calls Tryz.prog 118 #[.slice a (nl x) c] w fun e w' => e = .returned (.bool true) ∧ w = w' := by
  rcases hx.2 with rfl | ⟨b, off, rfl, hlt, hc⟩
  · rw [nl_zero]; exact natValid_nil w a c
  · by_cases h0 : x = 0
    · subst h0; rw [nl_zero]; exact natValid_nil w _ c
    · have hp : 0 < nl x := by have := mt nl_eq_zero.1 h0; omega
      have h1 := natValid_some w b off (nl x) c _ hp hn (hc (nl x - 1) (by omega))
      have h2 : ((dig x (nl x - 1) : Int) != 0) = true := by have := dig_nl h0; simp; omega
      rwa [h2] at h1

theorem natOrder_ret (w : World) (a a' : Option Addr) (c c' x y n m : Nat) (hx : Num w a c x) (hy : Num w a' c' y) (hn : nl x ≤ 65536) (h1 : nl x = n) (h2 : nl y = m) :
    Calls Tryz.prog 119 #[.slice a n c, .slice a' m c'] w (Ret w fun v _ => v = .int .i64 (cmpI x y)) := by
  subst h1; subst h2
  refine (natOrder_any w a a' c c' x y hx hy hn).mono ?_
  rintro e w' ⟨rfl, nq, rfl⟩
  exact ⟨_, rfl, (Below.refl _ _).drewN nq, rfl⟩

theorem nl_one : nl 1 = 1 := nl_small (by decide) B64_gt

set_option maxRecDepth 100000 in
set_option maxHeartbeats 1600000 in
theorem ratValid_main (w : World) (neg : Bool) (an ad : Option Addr) (cn cd n d : Nat) (hn : Num w an cn n) (hd : Num w ad cd d) (hnB : n < B64) (hdB : d < B64) (hd0 : d ≠ 0) (hneg : neg = true → n ≠ 0) :
    Calls Tryz.prog 69 #[.agg #[.bool neg, .slice an (nl n) cn, .slice ad (nl d) cd]] w (Ret w fun v _ => v = .bool (decide (Nat.gcd n d = 1))) := by
  have hnn : nl n ≤ 1 := by
    by_cases h0 : n = 0
    · rw [h0, nl_zero]; omega
    · rw [nl_small h0 hnB]; omega
  have hnd : nl d = 1 := nl_small hd0 hdB
  have HNB := Lib.hid hnB
  have HDB := Lib.hid hdB
  have HND := Lib.hid hnd
  clear hnB hdB
  have hB0 := (Below.refl w.heap.size w).alloc (Nat.le_refl _) (.cells #[.bool neg, .slice an (nl n) cn, .slice ad (nl d) cd] 44)
  have HV1 := Lib.hid (natValid_num _ an cn n (hn.mono hB0) (by omega))
  have HV2 := Lib.hid (natValid_num _ ad cd d (hd.mono hB0) (by omega))
  rw [hnd] at hB0 HV1 HV2 ⊢
  have hnz : neg = true → ((nl n : Int) == 0) = false := by
    intro h
    have := mt nl_eq_zero.1 (hneg h)
    simp; omega
  clear hnd
  go_enter Tryz.func69, Tryz.ntmps69
  cases neg with
  | false =>
    go_wp2_with fail
    skip
    clear hnz
    with_reducible refine HV1.out.mono ?_
    rintro e w' ⟨rfl, rfl⟩
    go_wp2_with fail
    with_reducible refine HV2.out.mono ?_
    rintro e w' ⟨rfl, rfl⟩

    go_wp2_with fail
    obtain ⟨W, hW⟩ : ∃ W, w.alloc (.cells #[.bool false, .slice an (nl n) cn, .slice ad 1 cd] 44) = W := ⟨_, rfl⟩
    have hc1 : W.cell? ⟨w.heap.size, 1, none⟩ = some (.slice an (nl n) cn) := by rw [← hW]; simp [go_sem]
    have hc2 : W.cell? ⟨w.heap.size, 2, none⟩ = some (.slice ad 1 cd) := by rw [← hW]; simp [go_sem]
    have hsz : w.heap.size < W.heap.size := by rw [← hW]; simp
    have hne : w.heap.size ≠ W.heap.size := Nat.ne_of_lt hsz
    rw [hW] at hB0 ⊢
    clear hW HV1 HV2
    have hnW := hn.mono hB0
    have hdW := hd.mono hB0
    have hg0 : Hid (Nat.gcd n d < B64) := Nat.lt_of_le_of_lt (Nat.gcd_le_right n (by omega)) HDB.out
    have hg1 : Hid (nl (Nat.gcd n d) ≤ 65536) := by
      by_cases h0 : Nat.gcd n d = 0
      · show nl _ ≤ _; rw [h0, nl_zero]; omega
      · show nl _ ≤ _; rw [nl_small h0 hg0.out]; omega
    have HCom : Hid (∀ w', Num w' an cn n → Num w' ad cd d → Calls Tryz.prog 121 #[.slice an (nl n) cn, .slice ad 1 cd] w' (Ret w' fun v u => ∃ a c, v = .slice a (nl (Nat.gcd n d)) c ∧ Num u a c (Nat.gcd n d) ∧ Fresh w' a)) := by
      intro w' h1 h2
      have := common_any w' an ad cn cd n d h1 h2 HNB.out HDB.out
      rwa [HND.out] at this
    clear hn hd hneg hnn hd0
    by_cases h1 : d = 1
    · have HC : Hid (cmpI d (1 : Nat) = 0) := by show cmpI _ _ = 0; simp [cmpI, h1]
      have HG : Hid (decide (Nat.gcd n d = 1) = true) := by show decide _ = true; simp [h1]
      clear h1
      refine region_start (BelowB (W.heap.size) W) 16 #[false, false, false, false, false, false, false, false, false, false, false, false, false, false, false, false] (by kernel_rfl) rfl rfl (BelowB.of (Below.refl _ _).drew) (fun hS => ?_)
      have hA : Below W.heap.size W W.drew := (Below.refl _ _).drew
      refine' take_run 0 15 (some 29) #[true, false, false, false, false, false, false, false, false, false, false, false, false, false, false, false] (v := _) rfl rfl rfl (by kernel_rfl) (by kernel_rfl) (by kernel_rfl) (fun _ _ _ h => h) rfl hS (fun wz hz => ?y0) ?r0
      case y0 => (go_simp; try with_reducible rfl)
      try simp only [Act.put, List.setIfInBounds_toArray, List.set_cons_zero, List.set_cons_succ]
      refine' take_run 1 14 (some 30) #[true, true, false, false, false, false, false, false, false, false, false, false, false, false, false, false] (v := _) rfl rfl rfl (by kernel_rfl) (by kernel_rfl) (by kernel_rfl) (fun _ _ _ h => h) rfl hS (fun wz hz => ?y1) ?r1
      case y1 => (have hzc := hz.cell; go_simp; try with_reducible rfl)
      try simp only [Act.put, List.setIfInBounds_toArray, List.set_cons_zero, List.set_cons_succ]
      refine step_call 2 13 (some 31) #[true, true, true, false, false, false, false, false, false, false, false, false, false, false, false, false] 120 [] rfl rfl rfl (by kernel_rfl) rfl rfl rfl Tryz.func120 rfl (by kernel_rfl) (ratOne _) ?_
      rintro v w' hb ⟨a1, c1, rfl, hN1, _⟩
      replace hS := hS.trans hb
      replace hA := hA.trans (hb.mono hA.size)
      refine ⟨hS, ?_⟩
      try simp only [Act.put, List.setIfInBounds_toArray, List.set_cons_zero, List.set_cons_succ]
      refine step_call 3 12 (some 32) #[true, true, true, true, false, false, false, false, false, false, false, false, false, false, false, false] 119 [.slice ad 1 cd, .slice a1 1 c1] rfl rfl rfl (by kernel_rfl) rfl rfl rfl Tryz.func119 rfl (by kernel_rfl) (natOrder_ret _ ad a1 cd c1 d 1 1 1 (hdW.mono (hS.all (Nat.le_refl _))) hN1 (by rw [HND.out]; omega) HND.out nl_one) ?_
      rintro v w' hb rfl
      replace hS := hS.trans hb
      replace hA := hA.trans (hb.mono hA.size)
      rw [HC.out]
      refine ⟨hS, ?_⟩
      try simp only [Act.put, List.setIfInBounds_toArray, List.set_cons_zero, List.set_cons_succ]
      refine' take_run 4 11 (some 33) #[true, true, true, true, true, false, false, false, false, false, false, false, false, false, false, false] (v := _) rfl rfl rfl (by kernel_rfl) (by kernel_rfl) (by kernel_rfl) (fun _ _ _ h => h) rfl hS (fun wz hz => ?y2) ?r2
      case y2 => (go_simp; try with_reducible rfl)
      try simp only [Act.put, List.setIfInBounds_toArray, List.set_cons_zero, List.set_cons_succ]
      refine' take_run 5 10 (some 34) #[true, true, true, true, true, true, false, false, false, false, false, false, false, false, false, false] (v := _) rfl rfl rfl (by kernel_rfl) (by kernel_rfl) (by kernel_rfl) (fun _ _ _ h => h) rfl hS (fun wz hz => ?y3) ?r3
      case y3 => (go_simp; try with_reducible rfl)
      try simp only [Act.put, List.setIfInBounds_toArray, List.set_cons_zero, List.set_cons_succ]
      refine take_skip 6 9 (some 35) #[true, true, true, true, true, true, true, false, false, false, false, false, false, false, false, false] rfl rfl rfl (by kernel_rfl) (by kernel_rfl) (by kernel_rfl) (fun _ _ _ h => h) rfl hS ?_
      try simp only [Act.put, List.setIfInBounds_toArray, List.set_cons_zero, List.set_cons_succ]
      refine take_skip 7 8 (some 36) #[true, true, true, true, true, true, true, true, false, false, false, false, false, false, false, false] rfl rfl rfl (by kernel_rfl) (by kernel_rfl) (by kernel_rfl) (fun _ _ _ h => h) rfl hS ?_
      try simp only [Act.put, List.setIfInBounds_toArray, List.set_cons_zero, List.set_cons_succ]
      refine take_skip 8 7 (some 37) #[true, true, true, true, true, true, true, true, true, false, false, false, false, false, false, false] rfl rfl rfl (by kernel_rfl) (by kernel_rfl) (by kernel_rfl) (fun _ _ _ h => h) rfl hS ?_
      try simp only [Act.put, List.setIfInBounds_toArray, List.set_cons_zero, List.set_cons_succ]
      refine take_skip 9 6 (some 38) #[true, true, true, true, true, true, true, true, true, true, false, false, false, false, false, false] rfl rfl rfl (by kernel_rfl) (by kernel_rfl) (by kernel_rfl) (fun _ _ _ h => h) rfl hS ?_
      try simp only [Act.put, List.setIfInBounds_toArray, List.set_cons_zero, List.set_cons_succ]
      refine take_skip 10 5 (some 39) #[true, true, true, true, true, true, true, true, true, true, true, false, false, false, false, false] rfl rfl rfl (by kernel_rfl) (by kernel_rfl) (by kernel_rfl) (fun _ _ _ h => h) rfl hS ?_
      try simp only [Act.put, List.setIfInBounds_toArray, List.set_cons_zero, List.set_cons_succ]
      refine take_skip 11 4 (some 40) #[true, true, true, true, true, true, true, true, true, true, true, true, false, false, false, false] rfl rfl rfl (by kernel_rfl) (by kernel_rfl) (by kernel_rfl) (fun _ _ _ h => h) rfl hS ?_
      try simp only [Act.put, List.setIfInBounds_toArray, List.set_cons_zero, List.set_cons_succ]
      refine take_skip 12 3 (some 41) #[true, true, true, true, true, true, true, true, true, true, true, true, true, false, false, false] rfl rfl rfl (by kernel_rfl) (by kernel_rfl) (by kernel_rfl) (fun _ _ _ h => h) rfl hS ?_
      try simp only [Act.put, List.setIfInBounds_toArray, List.set_cons_zero, List.set_cons_succ]
      refine take_skip 13 2 (some 42) #[true, true, true, true, true, true, true, true, true, true, true, true, true, true, false, false] rfl rfl rfl (by kernel_rfl) (by kernel_rfl) (by kernel_rfl) (fun _ _ _ h => h) rfl hS ?_
      try simp only [Act.put, List.setIfInBounds_toArray, List.set_cons_zero, List.set_cons_succ]
      refine' take_run 14 1 (some 43) #[true, true, true, true, true, true, true, true, true, true, true, true, true, true, true, false] (v := _) rfl rfl rfl (by kernel_rfl) (by kernel_rfl) (by kernel_rfl) (fun _ _ _ h => h) rfl hS (fun wz hz => ?y4) ?r4
      case y4 => (go_simp; try with_reducible rfl)
      try simp only [Act.put, List.setIfInBounds_toArray, List.set_cons_zero, List.set_cons_succ]
      refine' take_run 15 0 (some 2) #[true, true, true, true, true, true, true, true, true, true, true, true, true, true, true, true] (v := _) rfl rfl rfl (by kernel_rfl) (by kernel_rfl) (by kernel_rfl) (fun _ _ _ h => h) rfl hS (fun wz hz => ?y5) ?r5
      case y5 => (go_simp; try with_reducible rfl)
      try simp only [Act.put, List.setIfInBounds_toArray, List.set_cons_zero, List.set_cons_succ]
      refine wpAnyH_done (by kernel_rfl) ?_ _
      go_wp2_with fail
      go_ret
      rw [HG.out]
      exact ⟨_, rfl, hB0.trans ((hS.all (Nat.le_refl _)).mono (Nat.le_of_lt hsz)), rfl⟩
    · obtain ⟨z, hz⟩ : ∃ z, cmpI d (1 : Nat) = z := ⟨_, rfl⟩
      have hz0 : (z == 0) = false := by rw [← hz]; simp only [cmpI]; (repeat' split) <;> first | rfl | (exfalso; omega)
      have HC := Lib.hid hz
      clear hz
      obtain ⟨y, hy⟩ : ∃ y, cmpI (Nat.gcd n d) (1 : Nat) = y := ⟨_, rfl⟩
      have HG : Hid (decide (Nat.gcd n d = 1) = (y == 0)) := by
        show decide _ = _
        rw [← hy]; simp only [cmpI]
        by_cases e : Nat.gcd n d = 1
        · simp [e]
        · rw [decide_eq_false e]; symm; simp; (repeat' split) <;> omega
      have HC2 := Lib.hid hy
      clear hy h1
      refine region_start (BelowB (W.heap.size) W) 16 #[false, false, false, false, false, false, false, false, false, false, false, false, false, false, false, false] (by kernel_rfl) rfl rfl (BelowB.of (Below.refl _ _).drew) (fun hS => ?_)
      have hA : Below W.heap.size W W.drew := (Below.refl _ _).drew
      refine' take_run 0 15 (some 29) #[true, false, false, false, false, false, false, false, false, false, false, false, false, false, false, false] (v := _) rfl rfl rfl (by kernel_rfl) (by kernel_rfl) (by kernel_rfl) (fun _ _ _ h => h) rfl hS (fun wz hz => ?y6) ?r6
      case y6 => (go_simp; try with_reducible rfl)
      try simp only [Act.put, List.setIfInBounds_toArray, List.set_cons_zero, List.set_cons_succ]
      refine' take_run 1 14 (some 30) #[true, true, false, false, false, false, false, false, false, false, false, false, false, false, false, false] (v := _) rfl rfl rfl (by kernel_rfl) (by kernel_rfl) (by kernel_rfl) (fun _ _ _ h => h) rfl hS (fun wz hz => ?y7) ?r7
      case y7 => (have hzc := hz.cell; go_simp; try with_reducible rfl)
      try simp only [Act.put, List.setIfInBounds_toArray, List.set_cons_zero, List.set_cons_succ]
      refine step_call 2 13 (some 31) #[true, true, true, false, false, false, false, false, false, false, false, false, false, false, false, false] 120 [] rfl rfl rfl (by kernel_rfl) rfl rfl rfl Tryz.func120 rfl (by kernel_rfl) (ratOne _) ?_
      rintro v w' hb ⟨a1, c1, rfl, hN1, _⟩
      replace hS := hS.trans hb
      replace hA := hA.trans (hb.mono hA.size)
      refine ⟨hS, ?_⟩
      try simp only [Act.put, List.setIfInBounds_toArray, List.set_cons_zero, List.set_cons_succ]
      refine step_call 3 12 (some 32) #[true, true, true, true, false, false, false, false, false, false, false, false, false, false, false, false] 119 [.slice ad 1 cd, .slice a1 1 c1] rfl rfl rfl (by kernel_rfl) rfl rfl rfl Tryz.func119 rfl (by kernel_rfl) (natOrder_ret _ ad a1 cd c1 d 1 1 1 (hdW.mono (hS.all (Nat.le_refl _))) hN1 (by rw [HND.out]; omega) HND.out nl_one) ?_
      rintro v w' hb rfl
      replace hS := hS.trans hb
      replace hA := hA.trans (hb.mono hA.size)
      rw [HC.out]
      refine ⟨hS, ?_⟩
      try simp only [Act.put, List.setIfInBounds_toArray, List.set_cons_zero, List.set_cons_succ]
      refine' take_run 4 11 (some 33) #[true, true, true, true, true, false, false, false, false, false, false, false, false, false, false, false] (v := _) rfl rfl rfl (by kernel_rfl) (by kernel_rfl) (by kernel_rfl) (fun _ _ _ h => h) rfl hS (fun wz hz => ?y8) ?r8
      case y8 => (go_simp; try with_reducible rfl)
      try simp only [Act.put, List.setIfInBounds_toArray, List.set_cons_zero, List.set_cons_succ]
      refine' take_run 5 10 (some 34) #[true, true, true, true, true, true, false, false, false, false, false, false, false, false, false, false] (v := _) rfl rfl rfl (by kernel_rfl) (by kernel_rfl) (by kernel_rfl) (fun _ _ _ h => h) rfl hS (fun wz hz => ?y9) ?r9
      case y9 => (go_simp; try with_reducible rfl)
      try simp only [Act.put, List.setIfInBounds_toArray, List.set_cons_zero, List.set_cons_succ]
      refine' take_run 6 9 (some 35) #[true, true, true, true, true, true, true, false, false, false, false, false, false, false, false, false] (v := _) rfl rfl rfl (by kernel_rfl) (by kernel_rfl) (by kernel_rfl) (fun _ _ _ h => h) rfl hS (fun wz hz => ?y10) ?r10
      case y10 => (go_simp; try with_reducible rfl)
      try simp only [Act.put, List.setIfInBounds_toArray, List.set_cons_zero, List.set_cons_succ]
      refine' take_run 7 8 (some 36) #[true, true, true, true, true, true, true, true, false, false, false, false, false, false, false, false] (v := _) rfl rfl rfl (by kernel_rfl) (by kernel_rfl) (by kernel_rfl) (fun _ _ _ h => h) rfl hS (fun wz hz => ?y11) ?r11
      case y11 => (have hzc := hz.cell; go_simp; try with_reducible rfl)
      try simp only [Act.put, List.setIfInBounds_toArray, List.set_cons_zero, List.set_cons_succ]
      refine' take_run 8 7 (some 37) #[true, true, true, true, true, true, true, true, true, false, false, false, false, false, false, false] (v := _) rfl rfl rfl (by kernel_rfl) (by kernel_rfl) (by kernel_rfl) (fun _ _ _ h => h) rfl hS (fun wz hz => ?y12) ?r12
      case y12 => (go_simp; try with_reducible rfl)
      try simp only [Act.put, List.setIfInBounds_toArray, List.set_cons_zero, List.set_cons_succ]
      refine' take_run 9 6 (some 38) #[true, true, true, true, true, true, true, true, true, true, false, false, false, false, false, false] (v := _) rfl rfl rfl (by kernel_rfl) (by kernel_rfl) (by kernel_rfl) (fun _ _ _ h => h) rfl hS (fun wz hz => ?y13) ?r13
      case y13 => (have hzc := hz.cell; go_simp; try with_reducible rfl)
      try simp only [Act.put, List.setIfInBounds_toArray, List.set_cons_zero, List.set_cons_succ]
      refine step_call 10 5 (some 39) #[true, true, true, true, true, true, true, true, true, true, true, false, false, false, false, false] 121 [.slice an (nl n) cn, .slice ad 1 cd] rfl rfl rfl (by kernel_rfl) rfl rfl rfl Tryz.func121 rfl (by kernel_rfl) (HCom.out _ (hnW.mono (hS.all (Nat.le_refl _))) (hdW.mono (hS.all (Nat.le_refl _)))) ?_
      rintro v w' hb ⟨ag, cg, rfl, hNg, _⟩
      replace hS := hS.trans hb
      replace hA := hA.trans (hb.mono hA.size)
      refine ⟨hS, ?_⟩
      try simp only [Act.put, List.setIfInBounds_toArray, List.set_cons_zero, List.set_cons_succ]
      refine step_call 11 4 (some 40) #[true, true, true, true, true, true, true, true, true, true, true, true, false, false, false, false] 120 [] rfl rfl rfl (by kernel_rfl) rfl rfl rfl Tryz.func120 rfl (by kernel_rfl) (ratOne _) ?_
      rintro v w' hb ⟨a2, c2, rfl, hN2, _⟩
      replace hS := hS.trans hb
      replace hA := hA.trans (hb.mono hA.size)
      replace hNg := hNg.mono hb
      refine ⟨hS, ?_⟩
      try simp only [Act.put, List.setIfInBounds_toArray, List.set_cons_zero, List.set_cons_succ]
      refine step_call 12 3 (some 41) #[true, true, true, true, true, true, true, true, true, true, true, true, true, false, false, false] 119 [.slice ag (nl (Nat.gcd n d)) cg, .slice a2 1 c2] rfl rfl rfl (by kernel_rfl) rfl rfl rfl Tryz.func119 rfl (by kernel_rfl) (natOrder_ret _ ag a2 cg c2 (Nat.gcd n d) 1 _ 1 hNg hN2 hg1.out rfl nl_one) ?_
      rintro v w' hb rfl
      replace hS := hS.trans hb
      replace hA := hA.trans (hb.mono hA.size)
      rw [HC2.out]
      refine ⟨hS, ?_⟩
      try simp only [Act.put, List.setIfInBounds_toArray, List.set_cons_zero, List.set_cons_succ]
      refine' take_run 13 2 (some 42) #[true, true, true, true, true, true, true, true, true, true, true, true, true, true, false, false] (v := _) rfl rfl rfl (by kernel_rfl) (by kernel_rfl) (by kernel_rfl) (fun _ _ _ h => h) rfl hS (fun wz hz => ?y14) ?r14
      case y14 => (go_simp; try with_reducible rfl)
      try simp only [Act.put, List.setIfInBounds_toArray, List.set_cons_zero, List.set_cons_succ]
      refine' take_run 14 1 (some 43) #[true, true, true, true, true, true, true, true, true, true, true, true, true, true, true, false] (v := _) rfl rfl rfl (by kernel_rfl) (by kernel_rfl) (by kernel_rfl) (fun _ _ _ h => h) rfl hS (fun wz hz => ?y15) ?r15
      case y15 => (go_simp; try with_reducible rfl)
      try simp only [Act.put, List.setIfInBounds_toArray, List.set_cons_zero, List.set_cons_succ]
      refine' take_run 15 0 (some 2) #[true, true, true, true, true, true, true, true, true, true, true, true, true, true, true, true] (v := _) rfl rfl rfl (by kernel_rfl) (by kernel_rfl) (by kernel_rfl) (fun _ _ _ h => h) rfl hS (fun wz hz => ?y16) ?r16
      case y16 => (go_simp; try with_reducible rfl)
      try simp only [Act.put, List.setIfInBounds_toArray, List.set_cons_zero, List.set_cons_succ]
      refine wpAnyH_done (by kernel_rfl) ?_ _
      go_wp2_with fail
      go_ret
      rw [HG.out]
      exact ⟨_, rfl, hB0.trans ((hS.all (Nat.le_refl _)).mono (Nat.le_of_lt hsz)), rfl⟩
  | true =>
    go_wp2_with fail
    have hnz2 := hnz trivial
    clear hnz
    with_reducible refine HV1.out.mono ?_
    rintro e w' ⟨rfl, rfl⟩
    go_wp2_with fail
    with_reducible refine HV2.out.mono ?_
    rintro e w' ⟨rfl, rfl⟩

    go_wp2_with fail
    obtain ⟨W, hW⟩ : ∃ W, w.alloc (.cells #[.bool true, .slice an (nl n) cn, .slice ad 1 cd] 44) = W := ⟨_, rfl⟩
    have hc1 : W.cell? ⟨w.heap.size, 1, none⟩ = some (.slice an (nl n) cn) := by rw [← hW]; simp [go_sem]
    have hc2 : W.cell? ⟨w.heap.size, 2, none⟩ = some (.slice ad 1 cd) := by rw [← hW]; simp [go_sem]
    have hsz : w.heap.size < W.heap.size := by rw [← hW]; simp
    have hne : w.heap.size ≠ W.heap.size := Nat.ne_of_lt hsz
    rw [hW] at hB0 ⊢
    clear hW HV1 HV2 hnz2
    have hnW := hn.mono hB0
    have hdW := hd.mono hB0
    have hg0 : Hid (Nat.gcd n d < B64) := Nat.lt_of_le_of_lt (Nat.gcd_le_right n (by omega)) HDB.out
    have hg1 : Hid (nl (Nat.gcd n d) ≤ 65536) := by
      by_cases h0 : Nat.gcd n d = 0
      · show nl _ ≤ _; rw [h0, nl_zero]; omega
      · show nl _ ≤ _; rw [nl_small h0 hg0.out]; omega
    have HCom : Hid (∀ w', Num w' an cn n → Num w' ad cd d → Calls Tryz.prog 121 #[.slice an (nl n) cn, .slice ad 1 cd] w' (Ret w' fun v u => ∃ a c, v = .slice a (nl (Nat.gcd n d)) c ∧ Num u a c (Nat.gcd n d) ∧ Fresh w' a)) := by
      intro w' h1 h2
      have := common_any w' an ad cn cd n d h1 h2 HNB.out HDB.out
      rwa [HND.out] at this
    clear hn hd hneg hnn hd0
    by_cases h1 : d = 1
    · have HC : Hid (cmpI d (1 : Nat) = 0) := by show cmpI _ _ = 0; simp [cmpI, h1]
      have HG : Hid (decide (Nat.gcd n d = 1) = true) := by show decide _ = true; simp [h1]
      clear h1
      refine region_start (BelowB (W.heap.size) W) 16 #[false, false, false, false, false, false, false, false, false, false, false, false, false, false, false, false] (by kernel_rfl) rfl rfl (BelowB.of (Below.refl _ _).drew) (fun hS => ?_)
      have hA : Below W.heap.size W W.drew := (Below.refl _ _).drew
      refine' take_run 0 15 (some 29) #[true, false, false, false, false, false, false, false, false, false, false, false, false, false, false, false] (v := _) rfl rfl rfl (by kernel_rfl) (by kernel_rfl) (by kernel_rfl) (fun _ _ _ h => h) rfl hS (fun wz hz => ?y17) ?r17
      case y17 => (go_simp; try with_reducible rfl)
      try simp only [Act.put, List.setIfInBounds_toArray, List.set_cons_zero, List.set_cons_succ]
      refine' take_run 1 14 (some 30) #[true, true, false, false, false, false, false, false, false, false, false, false, false, false, false, false] (v := _) rfl rfl rfl (by kernel_rfl) (by kernel_rfl) (by kernel_rfl) (fun _ _ _ h => h) rfl hS (fun wz hz => ?y18) ?r18
      case y18 => (have hzc := hz.cell; go_simp; try with_reducible rfl)
      try simp only [Act.put, List.setIfInBounds_toArray, List.set_cons_zero, List.set_cons_succ]
      refine step_call 2 13 (some 31) #[true, true, true, false, false, false, false, false, false, false, false, false, false, false, false, false] 120 [] rfl rfl rfl (by kernel_rfl) rfl rfl rfl Tryz.func120 rfl (by kernel_rfl) (ratOne _) ?_
      rintro v w' hb ⟨a1, c1, rfl, hN1, _⟩
      replace hS := hS.trans hb
      replace hA := hA.trans (hb.mono hA.size)
      refine ⟨hS, ?_⟩
      try simp only [Act.put, List.setIfInBounds_toArray, List.set_cons_zero, List.set_cons_succ]
      refine step_call 3 12 (some 32) #[true, true, true, true, false, false, false, false, false, false, false, false, false, false, false, false] 119 [.slice ad 1 cd, .slice a1 1 c1] rfl rfl rfl (by kernel_rfl) rfl rfl rfl Tryz.func119 rfl (by kernel_rfl) (natOrder_ret _ ad a1 cd c1 d 1 1 1 (hdW.mono (hS.all (Nat.le_refl _))) hN1 (by rw [HND.out]; omega) HND.out nl_one) ?_
      rintro v w' hb rfl
      replace hS := hS.trans hb
      replace hA := hA.trans (hb.mono hA.size)
      rw [HC.out]
      refine ⟨hS, ?_⟩
      try simp only [Act.put, List.setIfInBounds_toArray, List.set_cons_zero, List.set_cons_succ]
      refine' take_run 4 11 (some 33) #[true, true, true, true, true, false, false, false, false, false, false, false, false, false, false, false] (v := _) rfl rfl rfl (by kernel_rfl) (by kernel_rfl) (by kernel_rfl) (fun _ _ _ h => h) rfl hS (fun wz hz => ?y19) ?r19
      case y19 => (go_simp; try with_reducible rfl)
      try simp only [Act.put, List.setIfInBounds_toArray, List.set_cons_zero, List.set_cons_succ]
      refine' take_run 5 10 (some 34) #[true, true, true, true, true, true, false, false, false, false, false, false, false, false, false, false] (v := _) rfl rfl rfl (by kernel_rfl) (by kernel_rfl) (by kernel_rfl) (fun _ _ _ h => h) rfl hS (fun wz hz => ?y20) ?r20
      case y20 => (go_simp; try with_reducible rfl)
      try simp only [Act.put, List.setIfInBounds_toArray, List.set_cons_zero, List.set_cons_succ]
      refine take_skip 6 9 (some 35) #[true, true, true, true, true, true, true, false, false, false, false, false, false, false, false, false] rfl rfl rfl (by kernel_rfl) (by kernel_rfl) (by kernel_rfl) (fun _ _ _ h => h) rfl hS ?_
      try simp only [Act.put, List.setIfInBounds_toArray, List.set_cons_zero, List.set_cons_succ]
      refine take_skip 7 8 (some 36) #[true, true, true, true, true, true, true, true, false, false, false, false, false, false, false, false] rfl rfl rfl (by kernel_rfl) (by kernel_rfl) (by kernel_rfl) (fun _ _ _ h => h) rfl hS ?_
      try simp only [Act.put, List.setIfInBounds_toArray, List.set_cons_zero, List.set_cons_succ]
      refine take_skip 8 7 (some 37) #[true, true, true, true, true, true, true, true, true, false, false, false, false, false, false, false] rfl rfl rfl (by kernel_rfl) (by kernel_rfl) (by kernel_rfl) (fun _ _ _ h => h) rfl hS ?_
      try simp only [Act.put, List.setIfInBounds_toArray, List.set_cons_zero, List.set_cons_succ]
      refine take_skip 9 6 (some 38) #[true, true, true, true, true, true, true, true, true, true, false, false, false, false, false, false] rfl rfl rfl (by kernel_rfl) (by kernel_rfl) (by kernel_rfl) (fun _ _ _ h => h) rfl hS ?_
      try simp only [Act.put, List.setIfInBounds_toArray, List.set_cons_zero, List.set_cons_succ]
      refine take_skip 10 5 (some 39) #[true, true, true, true, true, true, true, true, true, true, true, false, false, false, false, false] rfl rfl rfl (by kernel_rfl) (by kernel_rfl) (by kernel_rfl) (fun _ _ _ h => h) rfl hS ?_
      try simp only [Act.put, List.setIfInBounds_toArray, List.set_cons_zero, List.set_cons_succ]
      refine take_skip 11 4 (some 40) #[true, true, true, true, true, true, true, true, true, true, true, true, false, false, false, false] rfl rfl rfl (by kernel_rfl) (by kernel_rfl) (by kernel_rfl) (fun _ _ _ h => h) rfl hS ?_
      try simp only [Act.put, List.setIfInBounds_toArray, List.set_cons_zero, List.set_cons_succ]
      refine take_skip 12 3 (some 41) #[true, true, true, true, true, true, true, true, true, true, true, true, true, false, false, false] rfl rfl rfl (by kernel_rfl) (by kernel_rfl) (by kernel_rfl) (fun _ _ _ h => h) rfl hS ?_
      try simp only [Act.put, List.setIfInBounds_toArray, List.set_cons_zero, List.set_cons_succ]
      refine take_skip 13 2 (some 42) #[true, true, true, true, true, true, true, true, true, true, true, true, true, true, false, false] rfl rfl rfl (by kernel_rfl) (by kernel_rfl) (by kernel_rfl) (fun _ _ _ h => h) rfl hS ?_
      try simp only [Act.put, List.setIfInBounds_toArray, List.set_cons_zero, List.set_cons_succ]
      refine' take_run 14 1 (some 43) #[true, true, true, true, true, true, true, true, true, true, true, true, true, true, true, false] (v := _) rfl rfl rfl (by kernel_rfl) (by kernel_rfl) (by kernel_rfl) (fun _ _ _ h => h) rfl hS (fun wz hz => ?y21) ?r21
      case y21 => (go_simp; try with_reducible rfl)
      try simp only [Act.put, List.setIfInBounds_toArray, List.set_cons_zero, List.set_cons_succ]
      refine' take_run 15 0 (some 2) #[true, true, true, true, true, true, true, true, true, true, true, true, true, true, true, true] (v := _) rfl rfl rfl (by kernel_rfl) (by kernel_rfl) (by kernel_rfl) (fun _ _ _ h => h) rfl hS (fun wz hz => ?y22) ?r22
      case y22 => (go_simp; try with_reducible rfl)
      try simp only [Act.put, List.setIfInBounds_toArray, List.set_cons_zero, List.set_cons_succ]
      refine wpAnyH_done (by kernel_rfl) ?_ _
      go_wp2_with fail
      go_ret
      rw [HG.out]
      exact ⟨_, rfl, hB0.trans ((hS.all (Nat.le_refl _)).mono (Nat.le_of_lt hsz)), rfl⟩
    · obtain ⟨z, hz⟩ : ∃ z, cmpI d (1 : Nat) = z := ⟨_, rfl⟩
      have hz0 : (z == 0) = false := by rw [← hz]; simp only [cmpI]; (repeat' split) <;> first | rfl | (exfalso; omega)
      have HC := Lib.hid hz
      clear hz
      obtain ⟨y, hy⟩ : ∃ y, cmpI (Nat.gcd n d) (1 : Nat) = y := ⟨_, rfl⟩
      have HG : Hid (decide (Nat.gcd n d = 1) = (y == 0)) := by
        show decide _ = _
        rw [← hy]; simp only [cmpI]
        by_cases e : Nat.gcd n d = 1
        · simp [e]
        · rw [decide_eq_false e]; symm; simp; (repeat' split) <;> omega
      have HC2 := Lib.hid hy
      clear hy h1
      refine region_start (BelowB (W.heap.size) W) 16 #[false, false, false, false, false, false, false, false, false, false, false, false, false, false, false, false] (by kernel_rfl) rfl rfl (BelowB.of (Below.refl _ _).drew) (fun hS => ?_)
      have hA : Below W.heap.size W W.drew := (Below.refl _ _).drew
      refine' take_run 0 15 (some 29) #[true, false, false, false, false, false, false, false, false, false, false, false, false, false, false, false] (v := _) rfl rfl rfl (by kernel_rfl) (by kernel_rfl) (by kernel_rfl) (fun _ _ _ h => h) rfl hS (fun wz hz => ?y23) ?r23
      case y23 => (go_simp; try with_reducible rfl)
      try simp only [Act.put, List.setIfInBounds_toArray, List.set_cons_zero, List.set_cons_succ]
      refine' take_run 1 14 (some 30) #[true, true, false, false, false, false, false, false, false, false, false, false, false, false, false, false] (v := _) rfl rfl rfl (by kernel_rfl) (by kernel_rfl) (by kernel_rfl) (fun _ _ _ h => h) rfl hS (fun wz hz => ?y24) ?r24
      case y24 => (have hzc := hz.cell; go_simp; try with_reducible rfl)
      try simp only [Act.put, List.setIfInBounds_toArray, List.set_cons_zero, List.set_cons_succ]
      refine step_call 2 13 (some 31) #[true, true, true, false, false, false, false, false, false, false, false, false, false, false, false, false] 120 [] rfl rfl rfl (by kernel_rfl) rfl rfl rfl Tryz.func120 rfl (by kernel_rfl) (ratOne _) ?_
      rintro v w' hb ⟨a1, c1, rfl, hN1, _⟩
      replace hS := hS.trans hb
      replace hA := hA.trans (hb.mono hA.size)
      refine ⟨hS, ?_⟩
      try simp only [Act.put, List.setIfInBounds_toArray, List.set_cons_zero, List.set_cons_succ]
      refine step_call 3 12 (some 32) #[true, true, true, true, false, false, false, false, false, false, false, false, false, false, false, false] 119 [.slice ad 1 cd, .slice a1 1 c1] rfl rfl rfl (by kernel_rfl) rfl rfl rfl Tryz.func119 rfl (by kernel_rfl) (natOrder_ret _ ad a1 cd c1 d 1 1 1 (hdW.mono (hS.all (Nat.le_refl _))) hN1 (by rw [HND.out]; omega) HND.out nl_one) ?_
      rintro v w' hb rfl
      replace hS := hS.trans hb
      replace hA := hA.trans (hb.mono hA.size)
      rw [HC.out]
      refine ⟨hS, ?_⟩
      try simp only [Act.put, List.setIfInBounds_toArray, List.set_cons_zero, List.set_cons_succ]
      refine' take_run 4 11 (some 33) #[true, true, true, true, true, false, false, false, false, false, false, false, false, false, false, false] (v := _) rfl rfl rfl (by kernel_rfl) (by kernel_rfl) (by kernel_rfl) (fun _ _ _ h => h) rfl hS (fun wz hz => ?y25) ?r25
      case y25 => (go_simp; try with_reducible rfl)
      try simp only [Act.put, List.setIfInBounds_toArray, List.set_cons_zero, List.set_cons_succ]
      refine' take_run 5 10 (some 34) #[true, true, true, true, true, true, false, false, false, false, false, false, false, false, false, false] (v := _) rfl rfl rfl (by kernel_rfl) (by kernel_rfl) (by kernel_rfl) (fun _ _ _ h => h) rfl hS (fun wz hz => ?y26) ?r26
      case y26 => (go_simp; try with_reducible rfl)
      try simp only [Act.put, List.setIfInBounds_toArray, List.set_cons_zero, List.set_cons_succ]
      refine' take_run 6 9 (some 35) #[true, true, true, true, true, true, true, false, false, false, false, false, false, false, false, false] (v := _) rfl rfl rfl (by kernel_rfl) (by kernel_rfl) (by kernel_rfl) (fun _ _ _ h => h) rfl hS (fun wz hz => ?y27) ?r27
      case y27 => (go_simp; try with_reducible rfl)
      try simp only [Act.put, List.setIfInBounds_toArray, List.set_cons_zero, List.set_cons_succ]
      refine' take_run 7 8 (some 36) #[true, true, true, true, true, true, true, true, false, false, false, false, false, false, false, false] (v := _) rfl rfl rfl (by kernel_rfl) (by kernel_rfl) (by kernel_rfl) (fun _ _ _ h => h) rfl hS (fun wz hz => ?y28) ?r28
      case y28 => (have hzc := hz.cell; go_simp; try with_reducible rfl)
      try simp only [Act.put, List.setIfInBounds_toArray, List.set_cons_zero, List.set_cons_succ]
      refine' take_run 8 7 (some 37) #[true, true, true, true, true, true, true, true, true, false, false, false, false, false, false, false] (v := _) rfl rfl rfl (by kernel_rfl) (by kernel_rfl) (by kernel_rfl) (fun _ _ _ h => h) rfl hS (fun wz hz => ?y29) ?r29
      case y29 => (go_simp; try with_reducible rfl)
      try simp only [Act.put, List.setIfInBounds_toArray, List.set_cons_zero, List.set_cons_succ]
      refine' take_run 9 6 (some 38) #[true, true, true, true, true, true, true, true, true, true, false, false, false, false, false, false] (v := _) rfl rfl rfl (by kernel_rfl) (by kernel_rfl) (by kernel_rfl) (fun _ _ _ h => h) rfl hS (fun wz hz => ?y30) ?r30
      case y30 => (have hzc := hz.cell; go_simp; try with_reducible rfl)
      try simp only [Act.put, List.setIfInBounds_toArray, List.set_cons_zero, List.set_cons_succ]
      refine step_call 10 5 (some 39) #[true, true, true, true, true, true, true, true, true, true, true, false, false, false, false, false] 121 [.slice an (nl n) cn, .slice ad 1 cd] rfl rfl rfl (by kernel_rfl) rfl rfl rfl Tryz.func121 rfl (by kernel_rfl) (HCom.out _ (hnW.mono (hS.all (Nat.le_refl _))) (hdW.mono (hS.all (Nat.le_refl _)))) ?_
      rintro v w' hb ⟨ag, cg, rfl, hNg, _⟩
      replace hS := hS.trans hb
      replace hA := hA.trans (hb.mono hA.size)
      refine ⟨hS, ?_⟩
      try simp only [Act.put, List.setIfInBounds_toArray, List.set_cons_zero, List.set_cons_succ]
      refine step_call 11 4 (some 40) #[true, true, true, true, true, true, true, true, true, true, true, true, false, false, false, false] 120 [] rfl rfl rfl (by kernel_rfl) rfl rfl rfl Tryz.func120 rfl (by kernel_rfl) (ratOne _) ?_
      rintro v w' hb ⟨a2, c2, rfl, hN2, _⟩
      replace hS := hS.trans hb
      replace hA := hA.trans (hb.mono hA.size)
      replace hNg := hNg.mono hb
      refine ⟨hS, ?_⟩
      try simp only [Act.put, List.setIfInBounds_toArray, List.set_cons_zero, List.set_cons_succ]
      refine step_call 12 3 (some 41) #[true, true, true, true, true, true, true, true, true, true, true, true, true, false, false, false] 119 [.slice ag (nl (Nat.gcd n d)) cg, .slice a2 1 c2] rfl rfl rfl (by kernel_rfl) rfl rfl rfl Tryz.func119 rfl (by kernel_rfl) (natOrder_ret _ ag a2 cg c2 (Nat.gcd n d) 1 _ 1 hNg hN2 hg1.out rfl nl_one) ?_
      rintro v w' hb rfl
      replace hS := hS.trans hb
      replace hA := hA.trans (hb.mono hA.size)
      rw [HC2.out]
      refine ⟨hS, ?_⟩
      try simp only [Act.put, List.setIfInBounds_toArray, List.set_cons_zero, List.set_cons_succ]
      refine' take_run 13 2 (some 42) #[true, true, true, true, true, true, true, true, true, true, true, true, true, true, false, false] (v := _) rfl rfl rfl (by kernel_rfl) (by kernel_rfl) (by kernel_rfl) (fun _ _ _ h => h) rfl hS (fun wz hz => ?y31) ?r31
      case y31 => (go_simp; try with_reducible rfl)
      try simp only [Act.put, List.setIfInBounds_toArray, List.set_cons_zero, List.set_cons_succ]
      refine' take_run 14 1 (some 43) #[true, true, true, true, true, true, true, true, true, true, true, true, true, true, true, false] (v := _) rfl rfl rfl (by kernel_rfl) (by kernel_rfl) (by kernel_rfl) (fun _ _ _ h => h) rfl hS (fun wz hz => ?y32) ?r32
      case y32 => (go_simp; try with_reducible rfl)
      try simp only [Act.put, List.setIfInBounds_toArray, List.set_cons_zero, List.set_cons_succ]
      refine' take_run 15 0 (some 2) #[true, true, true, true, true, true, true, true, true, true, true, true, true, true, true, true] (v := _) rfl rfl rfl (by kernel_rfl) (by kernel_rfl) (by kernel_rfl) (fun _ _ _ h => h) rfl hS (fun wz hz => ?y33) ?r33
      case y33 => (go_simp; try with_reducible rfl)
      try simp only [Act.put, List.setIfInBounds_toArray, List.set_cons_zero, List.set_cons_succ]
      refine wpAnyH_done (by kernel_rfl) ?_ _
      go_wp2_with fail
      go_ret
      rw [HG.out]
      exact ⟨_, rfl, hB0.trans ((hS.all (Nat.le_refl _)).mono (Nat.le_of_lt hsz)), rfl⟩
end Go.Proofs.YtodeddappmfphaaGreatDoor
