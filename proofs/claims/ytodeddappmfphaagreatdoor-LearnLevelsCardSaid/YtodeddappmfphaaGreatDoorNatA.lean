/- Walks of package nat: trim, Valid, Order. -/
import Derived.Test.YtodeddappmfphaaGreatDoorProg
import Derived.Test.YtodeddappmfphaaGreatDoorBase
namespace Go.Proofs.YtodeddappmfphaaGreatDoor
open Go.RowKit Go.Thd

/-- What trim makes of a slice. -/
def trimV (f : Nat → Nat) (a : Option Addr) (n cap : Nat) : Value := if tl f n = 0 then .slice none 0 0 else .slice a (tl f n) cap

def lenOf : Value → Nat | .slice _ n _ => n | _ => 0

theorem trim_any (f : Nat → Nat) (w : World) (b off n cap : Nat) (hn : n ≤ 4611686018427387904) (hcap : n ≤ cap)
    (hc : ∀ i, i < n → w.cell? ⟨b, off + i, none⟩ = some (.int .u64 (f i))) :
    Calls Tryz.prog 196 #[.slice (some ⟨b, off, none⟩) n cap] w fun e w' =>
      e = .returned (trimV f (some ⟨b, off, none⟩) n cap) ∧ w = w' := by
  go_enter Tryz.func196, Tryz.ntmps196
  go_wp2
  go_loop [0] (fun v => ∃ k : Nat, k ≤ n ∧ tl f k = tl f n ∧ v = .slice (some ⟨b, off, none⟩) k cap) (fun v => lenOf v)
  case atStart => exact ⟨n, Nat.le_refl _, rfl, rfl⟩
  case round =>
    obtain ⟨k, hk, htl, rfl⟩ := hrel
    by_cases h0 : k = 0
    · subst h0
      have HT := Lib.hid htl
      clear hc htl
      go_wp2
      go_ret
      exact ⟨by show _ = Ending.returned (trimV f _ n cap); rw [trimV, ← HT.out]; rfl, rfl⟩
    · obtain ⟨j, rfl⟩ : ∃ j, k = j + 1 := ⟨k - 1, by omega⟩
      have hj := hc j (by omega)
      have HT := Lib.hid htl
      clear hc htl
      by_cases hf : f j = 0
      · rw [hf] at hj
        have HF := Lib.hid hf
        clear hf
        go_wp2
        go_round
        case rel => exact ⟨j, by omega, by rw [← HT.out, tl, if_pos HF.out], rfl⟩
        case measure => simp [lenOf]
      · have hf' : ((f j : Int) == 0) = false := by simp; omega
        have hne : tl f n = j + 1 := by rw [← HT.out, tl, if_neg hf]
        have HN := Lib.hid hne
        clear hf hne HT
        go_wp2
        go_ret
        exact ⟨by show _ = Ending.returned (trimV f _ n cap); rw [trimV, HN.out]; rfl, rfl⟩

theorem cmpInt_any (x y : Int) (w : World) :
    Calls Tryz.prog 162 #[.int .i64 x, .int .i64 y] w fun e w' => e = .returned (.int .i64 (cmpI x y)) ∧ ∃ nq, w' = w.drewN nq := by
  by_cases h1 : x < y
  · have hc : cmpI x y = -1 := by simp [cmpI, h1]
    have HC := Lib.hid hc; clear hc
    go_enter Tryz.func162, Tryz.ntmps162
    go_wp2
    go_ret
    exact ⟨by rw [HC.out]; rfl, 0, rfl⟩
  · by_cases h2 : x = y
    · subst h2
      have hc : cmpI x x = 0 := by simp [cmpI]
      have HC := Lib.hid hc; clear hc
      go_enter Tryz.func162, Tryz.ntmps162
      go_wp2
      go_ret
      exact ⟨by rw [HC.out]; rfl, 0, rfl⟩
    · have h3 : y < x := by omega
      have hc : cmpI x y = 1 := by simp [cmpI, h1, h2]
      have HC := Lib.hid hc; clear hc
      go_enter Tryz.func162, Tryz.ntmps162
      go_wp2
      go_ret
      exact ⟨by rw [HC.out]; rfl, 0, rfl⟩

theorem cmpU_any (x y : Int) (w : World) :
    Calls Tryz.prog 163 #[.int .u64 x, .int .u64 y] w fun e w' => e = .returned (.int .i64 (cmpI x y)) ∧ ∃ nq, w' = w.drewN nq := by
  by_cases h1 : x < y
  · have hc : cmpI x y = -1 := by simp [cmpI, h1]
    have HC := Lib.hid hc; clear hc
    go_enter Tryz.func163, Tryz.ntmps163
    go_wp2
    go_ret
    exact ⟨by rw [HC.out]; rfl, 0, rfl⟩
  · by_cases h2 : x = y
    · subst h2
      have hc : cmpI x x = 0 := by simp [cmpI]
      have HC := Lib.hid hc; clear hc
      go_enter Tryz.func163, Tryz.ntmps163
      go_wp2
      go_ret
      exact ⟨by rw [HC.out]; rfl, 0, rfl⟩
    · have h3 : y < x := by omega
      have hc : cmpI x y = 1 := by simp [cmpI, h1, h2]
      have HC := Lib.hid hc; clear hc
      go_enter Tryz.func163, Tryz.ntmps163
      go_wp2
      go_ret
      exact ⟨by rw [HC.out]; rfl, 0, rfl⟩

theorem natValid_nil (w : World) (a : Option Addr) (cap : Nat) :
    Calls Tryz.prog 118 #[.slice a 0 cap] w fun e w' => e = .returned (.bool true) ∧ w = w' := by
  go_enter Tryz.func118, Tryz.ntmps118
  go_wp2
  go_ret
  exact ⟨rfl, rfl⟩
theorem natValid_some (w : World) (b off n cap : Nat) (x : Int) (h0 : 0 < n) (h1 : n ≤ 64) (hx : w.cell? ⟨b, off + (n-1), none⟩ = some (.int .u64 x)) :
    Calls Tryz.prog 118 #[.slice (some ⟨b, off, none⟩) n cap] w fun e w' => e = .returned (.bool (x != 0)) ∧ w = w' := by
  have hn : ((n : Int) == 0) = false := by simp; omega
  go_enter Tryz.func118, Tryz.ntmps118
  go_wp2
  go_ret
  exact ⟨rfl, rfl⟩

theorem natOrder_len (w : World) (a a' : Option Addr) (n m c c' : Nat) (h : n ≠ m) :
    Calls Tryz.prog 119 #[.slice a n c, .slice a' m c'] w fun e w' => e = .returned (.int .i64 (cmpI n m)) ∧ ∃ nq, w' = w.drewN nq := by
  have hne : ((n : Int) != m) = true := by simp; omega
  go_enter Tryz.func119, Tryz.ntmps119
  go_wp2_with fail
  refine (cmpInt_any _ _ _).mono ?_
  rintro e w' ⟨rfl, nq, rfl⟩
  go_wp2_with fail
  go_ret
  exact ⟨rfl, _, rfl⟩

theorem natOrder_same (w : World) (a a' : Option Addr) (n c c' : Nat) (f g : Nat → Nat) (hn : n ≤ 65536) (hf : U64s w a n f) (hg : U64s w a' n g) :
    Calls Tryz.prog 119 #[.slice a n c, .slice a' n c'] w fun e w' => e = .returned (.int .i64 (ordF f g n)) ∧ ∃ nq, w' = w.drewN nq := by
  go_enter Tryz.func119, Tryz.ntmps119
  go_wp2_with fail
  go_loopw [5] (fun v wr => ∃ k q : Nat, k ≤ n ∧ ordF f g k = ordF f g n ∧ v = .int .i64 ((k : Int) - 1) ∧ wr = w.drewN q) (fun v _ => (intOf v + 1).toNat)
  case atStart => exact ⟨n, 0, Nat.le_refl _, rfl, rfl, rfl⟩
  case round =>
    obtain ⟨k, q, hk, ho, rfl, rfl⟩ := hrel
    have HO := Lib.hid ho
    clear ho
    by_cases h0 : k = 0
    · subst h0
      clear hf hg
      go_wp2_with fail
      go_ret
      exact ⟨by rw [← HO.out]; rfl, _, rfl⟩
    · obtain ⟨j, rfl⟩ : ∃ j, k = j + 1 := ⟨k - 1, by omega⟩
      obtain ⟨b, off, rfl, hb, hc⟩ := hf.resolve_left (by omega)
      obtain ⟨b', off', rfl, hb', hc'⟩ := hg.resolve_left (by omega)
      have h1 := hc j (by omega)
      have h2 := hc' j (by omega)
      clear hc hc' hf hg
      have hjj : ((j + 1 : Nat) : Int) - 1 = (j : Int) := by omega
      rw [hjj]
      clear hjj
      by_cases he : f j = g j
      · have HE : Hid (ordF f g j = ordF f g n) := Lib.hid (by rw [← HO.out, ordF, if_pos he])
        clear HO
        rw [← he] at h2
        clear he
        generalize f j = x at *
        go_wp2_with fail
        go_quiet (fail)
        go_wp2_with fail
        go_roundw
        case rel => exact ⟨j, _, by omega, HE.out, rfl, rfl⟩
        case measure => simp [intOf]
      · have HE : Hid (cmpI (f j) (g j) = ordF f g n) := Lib.hid (by rw [← HO.out, ordF, if_neg he])
        clear HO
        have hne : ((f j : Int) != g j) = true := by simp; omega
        clear he
        go_wp2_with fail
        go_quiet (fail)
        go_wp2_with fail
        go_quiet ((go_at_call 163; go_must (exact Calls.quiet_more (cmpU_any _ _ _))))
        go_wp2_with fail
        go_ret
        exact ⟨by rw [← HE.out]; rfl, _, by rw [World.drewN_drewN, World.drewN_drewN]⟩

/-- The order of two numbers. -/
theorem natOrder_any (w : World) (a a' : Option Addr) (c c' x y : Nat) (hx : Num w a c x) (hy : Num w a' c' y) (hn : nl x ≤ 65536) :
    Calls Tryz.prog 119 #[.slice a (nl x) c, .slice a' (nl y) c'] w fun e w' => e = .returned (.int .i64 (cmpI x y)) ∧ ∃ nq, w' = w.drewN nq := by
  by_cases h : nl x = nl y
  · have h1 := hy.u64s
    rw [← h] at h1 ⊢
    have := natOrder_same w a a' (nl x) c c' _ _ hn hx.u64s h1
    rw [ordF_eq (fun i _ => dig_lt _ _) (fun i _ => dig_lt _ _), val_dig_nl, h, val_dig_nl, ← h] at this
    exact this
  · have := natOrder_len w a a' (nl x) (nl y) c c' h
    rw [cmpI_of_nl h] at this
    exact this

/-- trim, of limbs that are a number. -/
theorem trim_num (f : Nat → Nat) (w : World) (b off n cap : Nat) (hn : n ≤ 4611686018427387904) (hcap : n ≤ cap) (hlt : b < w.heap.size)
    (hc : ∀ i, i < n → w.cell? ⟨b, off + i, none⟩ = some (.int .u64 (f i))) (hf : ∀ i, i < n → f i < B64) (x : Nat) (hx : val f n = x) :
    Calls Tryz.prog 196 #[.slice (some ⟨b, off, none⟩) n cap] w fun e w' =>
      ∃ a c, e = .returned (.slice a (nl x) c) ∧ Num w a c x ∧ (∀ p, a = some p → p.block = b) ∧ w = w' := by
  refine (trim_any f w b off n cap hn hcap hc).mono ?_
  rintro e w' ⟨rfl, rfl⟩
  have ht := tl_eq hf
  rw [hx] at ht
  by_cases h0 : x = 0
  · subst h0
    rw [nl_zero] at ht ⊢
    exact ⟨none, 0, by rw [trimV, if_pos ht], Num.zero _ _ _, (fun _ h => by cases h), rfl⟩
  · have h1 : ¬ tl f n = 0 := by rw [ht]; exact mt nl_eq_zero.1 h0
    refine ⟨some ⟨b, off, none⟩, cap, by rw [trimV, if_neg h1, ht], ⟨?_, .inr ⟨b, off, rfl, hlt, fun i hi => ?_⟩⟩, (fun p hp => by injection hp with hp; subst hp; rfl), rfl⟩
    · have := tl_le f n; omega
    · have h2 := tl_le f n
      rw [hc i (by omega), ← hx, dig_val hf (by omega)]
end Go.Proofs.YtodeddappmfphaaGreatDoor
