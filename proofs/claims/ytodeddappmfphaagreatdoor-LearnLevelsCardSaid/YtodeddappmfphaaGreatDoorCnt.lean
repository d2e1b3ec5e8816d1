/- Norm of none; learn's count of one and two. -/
import Derived.Test.YtodeddappmfphaaGreatDoorNor
import Derived.Test.YtodeddappmfphaaGreatDoorLev
namespace Go.Proofs.YtodeddappmfphaaGreatDoor
open Go.RowKit Go.Thd

set_option maxRecDepth 100000 in
theorem norm_nil (w : World) : Calls Tryz.prog 82 #[.slice none 0 0] w (Ret w fun v _ => v = .tuple #[.slice none 0 0, .bool false]) := by
  have HC := Lib.hid (Tryz.slices_Clone_int_nil 0 0 w)
  go_enter Tryz.func82, Tryz.ntmps82
  go_wp2_with fail
  with_reducible refine HC.out.mono ?_
  rintro e w1 ⟨rfl, rfl⟩
  go_wp2_with fail
  with_reducible refine (sort_few w1 none 0 0 (by omega)).mono ?_
  rintro e w2 ⟨v, rfl, rfl, rfl⟩
  go_wp2_with fail
  with_reducible refine (Tryz.slices_Compact_int_empty none 0 w1).mono ?_
  rintro e w2 ⟨rfl, rfl⟩
  go_wp2_with fail
  refine wp_loop_rounds 1 ?_
  rw [rounds_succ]
  go_wp2_with fail
  go_ret2
  exact ⟨_, rfl, Below.refl _ _, rfl⟩

theorem max_ints (w : World) (b off c : Nat) (l : List Int) (h0 : 0 < l.length) (hn : l.length ≤ 1000) (hc : ∀ j, j < l.length → w.cell? ⟨b, off + j, none⟩ = some (.int .i64 (l.getD j 0))) :
    Calls Tryz.prog 136 #[.slice (some ⟨b, off, none⟩) l.length c] w (RetS w fun v => v = .int .i64 (Lib.maxOf l)) :=
  (Tryz.slices_Max_int b off l.length c l w h0 (Nat.le_refl _) (by omega) hc).mono fun e w' ⟨he, hw⟩ => ⟨_, he, hw.symm, by rw [List.take_length]⟩

set_option maxRecDepth 100000 in
theorem count_one (w : World) (b c : Nat) (x : Int) (h0 : w.cell? ⟨b, 0, none⟩ = some (.int .i64 x)) :
    Calls Tryz.prog 86 #[.slice (some ⟨b, 0, none⟩) 1 c] w (Ret w fun v _ => v = .tuple #[.int .i64 1, .int .i64 x, .int .i64 0]) := by
  have HM := max_ints w b 0 c [x] (by simp) (by simp) (fun j hj => by
    match j, hj with
    | 0, _ => exact h0)
  have hm : Lib.maxOf [x] = x := by simp [Lib.maxOf]
  rw [hm] at HM
  have HM' := Lib.hid HM
  clear HM hm
  go_enter Tryz.func86, Tryz.ntmps86
  go_wp2_with fail
  refine HM'.out.mono ?_
  rintro e w1 ⟨v, rfl, rfl, rfl⟩
  go_wp2_with fail
  refine wp_loop_rounds 2 ?_
  rw [rounds_succ]
  go_wp2_with fail
  rw [rounds_succ]
  go_wp2_with fail
  exact bodyPost_ret (v := .tuple #[.int .i64 1, .int .i64 x, .int .i64 0]) (by simp [results, Tryz.results86, go_sem]) rfl ⟨_, rfl, Below.refl _ _, rfl⟩

set_option maxRecDepth 100000 in
theorem count_two (w : World) (b c : Nat) (x y : Int) (h0 : w.cell? ⟨b, 0, none⟩ = some (.int .i64 x)) (h1 : w.cell? ⟨b, 1, none⟩ = some (.int .i64 y)) (hx : 0 ≤ x) (hy : 0 ≤ y) :
    Calls Tryz.prog 86 #[.slice (some ⟨b, 0, none⟩) 2 c] w (Ret w fun v _ => v = .tuple #[.int .i64 (if x = y then 2 else 1), .int .i64 (max x y), .int .i64 (if x = y then 0 else min x y)]) := by
  have HM := max_ints w b 0 c [x, y] (by simp) (by simp) (fun j hj => by
    match j, hj with
    | 0, _ => exact h0
    | 1, _ => exact h1)
  have hm : Lib.maxOf [x, y] = max x y := by simp [Lib.maxOf]
  rw [hm] at HM
  by_cases he : x = y
  · subst he
    rw [if_pos rfl, if_pos rfl]
    have hmx : max x x = x := by omega
    rw [hmx] at HM ⊢
    have HM' := Lib.hid HM
    clear HM hm hmx
    go_enter Tryz.func86, Tryz.ntmps86
    go_wp2_with fail
    refine HM'.out.mono ?_
    rintro e w1 ⟨v, rfl, rfl, rfl⟩
    go_wp2_with fail
    refine wp_loop_rounds 3 ?_
    rw [rounds_succ]
    go_wp2_with fail
    rw [rounds_succ]
    go_wp2_with fail
    rw [rounds_succ]
    go_wp2_with fail
    exact bodyPost_ret (v := .tuple #[.int .i64 2, .int .i64 x, .int .i64 0]) (by simp [results, Tryz.results86, go_sem]) rfl ⟨_, rfl, Below.refl _ _, rfl⟩
  · rw [if_neg he, if_neg he]
    by_cases hlt : x < y
    · have hmx : max x y = y := by omega
      have hmn : min x y = x := by omega
      rw [hmx] at HM
      rw [hmx, hmn]
      have HM' := Lib.hid HM
      have hb : (x == y) = false := by simpa using he
      clear HM hm hmx hmn he
      go_enter Tryz.func86, Tryz.ntmps86
      go_wp2_with fail
      refine HM'.out.mono ?_
      rintro e w1 ⟨v, rfl, rfl, rfl⟩
      go_wp2_with fail
      refine wp_loop_rounds 3 ?_
      rw [rounds_succ]
      go_wp2_with fail
      rw [rounds_succ]
      go_wp2_with fail
      rw [rounds_succ]
      go_wp2_with fail
      exact bodyPost_ret (v := .tuple #[.int .i64 1, .int .i64 y, .int .i64 x]) (by simp [results, Tryz.results86, go_sem, show max 0 x = x by omega]) rfl ⟨_, rfl, Below.refl _ _, rfl⟩
    · have hmx : max x y = x := by omega
      have hmn : min x y = y := by omega
      rw [hmx] at HM
      rw [hmx, hmn]
      have HM' := Lib.hid HM
      have hb : (y == x) = false := by simp; omega
      clear HM hm hmx hmn he
      go_enter Tryz.func86, Tryz.ntmps86
      go_wp2_with fail
      refine HM'.out.mono ?_
      rintro e w1 ⟨v, rfl, rfl, rfl⟩
      go_wp2_with fail
      refine wp_loop_rounds 3 ?_
      rw [rounds_succ]
      go_wp2_with fail
      rw [rounds_succ]
      go_wp2_with fail
      rw [rounds_succ]
      go_wp2_with fail
      exact bodyPost_ret (v := .tuple #[.int .i64 1, .int .i64 x, .int .i64 y]) (by simp [results, Tryz.results86, go_sem, show max 0 y = y by omega]) rfl ⟨_, rfl, Below.refl _ _, rfl⟩
end Go.Proofs.YtodeddappmfphaaGreatDoor
