/- The law LearnLevels: its walk, whatever the input. -/
import Derived.Test.YtodeddappmfphaaGreatDoorLvw
namespace Go.Proofs.YtodeddappmfphaaGreatDoor
open Go.RowKit Go.Thd

set_option maxRecDepth 100000 in
theorem levels_walk (w : World) (n m : Nat) (ka qa : Option Addr) (kc qc : Nat) (K : Nat → Bool) (hK : ∀ j, j < n → ∃ ad, ka = some ad ∧ ad.block < w.heap.size ∧ w.cell? (ad.add j) = some (.bool (K j)))
    (Z : Nat → Int) (hZ : ∀ j, j < m → ∃ ad, qa = some ad ∧ ad.block < w.heap.size ∧ w.cell? (ad.add j) = some (.int .i64 (Z j))) :
    Calls Tryz.prog 8 #[.slice ka n kc, .slice qa m qc] w (Ret w fun v _ => v = .bool true) := by
  by_cases h1 : n < 1
  · have e1 : decide ((n : Int) < 1) = true := by simp; omega
    clear hK hZ
    go_enter Tryz.func8, Tryz.ntmps8
    go_wp2_with fail
    refine (awake_ok _).mono ?_
    rintro e w5 ⟨v, rfl, hb, rfl⟩
    have HB := Lib.hid hb
    clear hb
    go_wp2_with fail
    go_ret
    exact ⟨_, rfl, HB.out, rfl⟩
  · by_cases h10 : 10 < n
    · have e1 : decide ((n : Int) < 1) = false := by simp; omega
      have e2 : decide ((10 : Int) < n) = true := by simp; omega
      clear hK hZ
      go_enter Tryz.func8, Tryz.ntmps8
      go_wp2_with fail
      refine (awake_ok _).mono ?_
      rintro e w5 ⟨v, rfl, hb, rfl⟩
      have HB := Lib.hid hb
      clear hb
      go_wp2_with fail
      go_ret
      exact ⟨_, rfl, HB.out, rfl⟩
    · by_cases h11 : 10 < m
      · have e1 : decide ((n : Int) < 1) = false := by simp; omega
        have e2 : decide ((10 : Int) < n) = false := by simp; omega
        have e3 : decide ((10 : Int) < m) = true := by simp; omega
        clear hK hZ
        go_enter Tryz.func8, Tryz.ntmps8
        go_wp2_with fail
        refine (awake_ok _).mono ?_
        rintro e w5 ⟨v, rfl, hb, rfl⟩
        have HB := Lib.hid hb
        clear hb
        go_wp2_with fail
        go_ret
        exact ⟨_, rfl, HB.out, rfl⟩
      · obtain ⟨a, rfl, ha, _⟩ := hK 0 (by omega)
        exact levels_main w n (by omega) (by omega) a kc K ha (fun j hj => by
          obtain ⟨ad, hq, _, hc⟩ := hK j hj
          obtain rfl : a = ad := Option.some.inj hq
          exact hc) qa m qc (by omega) Z hZ
end Go.Proofs.YtodeddappmfphaaGreatDoor
