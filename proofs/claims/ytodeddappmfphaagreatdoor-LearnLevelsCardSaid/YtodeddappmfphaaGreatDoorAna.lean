/- learn's Analyze: its closures; where it is refused; where one or two literals are asked. -/
import Derived.Test.YtodeddappmfphaaGreatDoorFor
namespace Go.Proofs.YtodeddappmfphaaGreatDoor
open Go.RowKit Go.Thd

theorem atoms_q {w : World} {T : TA} {S : St} (h : Tr w T S) : Calls Tryz.prog 84 #[.pointer (some ⟨T.bt, 0, none⟩)] w fun e w' => e = .returned (.int .i64 (S.n : Nat)) ∧ ∃ m, w' = w.drewN m := by
  obtain ⟨c1, c4, c5, c6⟩ := h.cells
  clear h c4 c5 c6
  go_enter Tryz.func84, Tryz.ntmps84
  go_wp2_with fail
  go_ret
  exact ⟨rfl, 0, rfl⟩

theorem atoms_ret {w : World} {T : TA} {S : St} (h : Tr w T S) : Calls Tryz.prog 84 #[.pointer (some ⟨T.bt, 0, none⟩)] w (Ret w fun v _ => v = .int .i64 (S.n : Nat)) :=
  (atoms_q h).mono fun e w' ⟨he, m, hw⟩ => ⟨_, he, by rw [hw]; exact (Below.refl _ _).drewN m, rfl⟩

set_option maxRecDepth 100000 in
/-- Is a literal of no atom? -/
theorem an1_any {w : World} {T : TA} {S : St} (h : Tr w T S) (b0 : Nat) (x : Int) (h0 : w.cell? ⟨b0, 0, none⟩ = some (.pointer (some ⟨T.bt, 0, none⟩))) (hx : I64 x) (hxn : x ≠ 0) (hin : x.natAbs ≤ S.n) :
    Calls Tryz.prog 83 #[.int .i64 x, .pointer (some ⟨b0, 0, none⟩)] w (Ret w fun v _ => v = .bool false) := by
  obtain ⟨i, hi⟩ : ∃ i, x.natAbs = i + 1 := ⟨x.natAbs - 1, by omega⟩
  have HT := Lib.hid h
  have HX := Lib.hid hx
  have HI := Lib.hid hi
  have hf := h.few
  have hbl : b0 < w.heap.size := World.block_lt_of_cell? w ⟨b0, 0, none⟩ h0
  have hn : i + 1 ≤ S.n := by omega
  have hwr : IntKind.u64.wrap (S.n : Int) = (S.n : Int) := wrap_fits (by omega) (by omega)
  have hgt : ((S.n : Int) < (i : Int) + 1) = False := by simp; omega
  clear h hx hxn hin hi
  go_enter Tryz.func83, Tryz.ntmps83
  go_wp2_with fail
  refine startD (Below w.heap.size w) (fun j => false) 7 #[false, false, false, false, false, false, false] (by kernel_rfl) rfl rfl ((Below.refl _ _).drew) (fun hS => ?_)
  refine' takeP 0 6 (some 4) #[true, false, false, false, false, false, false] (v := _) rfl rfl rfl (by kernel_rfl) (by kernel_rfl) (by kernel_rfl) rfl (fun _ _ _ h => h) rfl hS (fun wz hz => ?y0) ?r0
  case y0 => (go_simp; try with_reducible rfl)
  try simp only [Act.put, List.setIfInBounds_toArray, List.set_cons_zero, List.set_cons_succ]
  refine' takeD 2 5 (some 6) #[true, false, true, false, false, false, false] (v := _) rfl rfl rfl (by kernel_rfl) (by kernel_rfl) (by kernel_rfl) (by kernel_rfl) (by kernel_rfl) rfl (fun _ _ _ h => h) rfl hS (fun wz hz => ?y1) ?r1
  case y1 => (have hzc := bcell hz; go_simp; try with_reducible rfl)
  try simp only [Act.put, List.setIfInBounds_toArray, List.set_cons_zero, List.set_cons_succ]
  refine callD 1 4 (some 5) #[true, true, true, false, false, false, false] 60 [.int .i64 x] rfl rfl rfl (by kernel_rfl) rfl rfl rfl Tryz.func60 rfl (by kernel_rfl) (size_ret _ x HX.out i HI.out) ?_
  rintro v w' hb rfl
  replace hS := hS.trans (hb.mono hS.size)
  refine ⟨hS, ?_⟩
  try simp only [Act.put, List.setIfInBounds_toArray, List.set_cons_zero, List.set_cons_succ]
  refine callD 3 3 (some 7) #[true, true, true, true, false, false, false] 84 [.pointer (some ⟨T.bt, 0, none⟩)] rfl rfl rfl (by kernel_rfl) rfl rfl rfl Tryz.func84 rfl (by kernel_rfl) (atoms_ret (HT.out.mono hS)) ?_
  rintro v w' hb rfl
  replace hS := hS.trans (hb.mono hS.size)
  refine ⟨hS, ?_⟩
  try simp only [Act.put, List.setIfInBounds_toArray, List.set_cons_zero, List.set_cons_succ]
  refine' takeP 4 2 (some 8) #[true, true, true, true, true, false, false] (v := _) rfl rfl rfl (by kernel_rfl) (by kernel_rfl) (by kernel_rfl) rfl (fun _ _ _ h => h) rfl hS (fun wz hz => ?y2) ?r2
  case y2 => (go_simp; try with_reducible rfl)
  try simp only [Act.put, List.setIfInBounds_toArray, List.set_cons_zero, List.set_cons_succ]
  refine' takeP 5 1 (some 9) #[true, true, true, true, true, true, false] (v := _) rfl rfl rfl (by kernel_rfl) (by kernel_rfl) (by kernel_rfl) rfl (fun _ _ _ h => h) rfl hS (fun wz hz => ?y3) ?r3
  case y3 => (go_simp; try with_reducible rfl)
  try simp only [Act.put, List.setIfInBounds_toArray, List.set_cons_zero, List.set_cons_succ]
  refine' takeP 6 0 (some 3) #[true, true, true, true, true, true, true] (v := _) rfl rfl rfl (by kernel_rfl) (by kernel_rfl) (by kernel_rfl) rfl (fun _ _ _ h => h) rfl hS (fun wz hz => ?y4) ?r4
  case y4 => (go_simp; try with_reducible rfl)
  try simp only [Act.put, List.setIfInBounds_toArray, List.set_cons_zero, List.set_cons_succ]
  refine doneD (by kernel_rfl) ?_ _
  go_wp2_with fail
  go_ret
  exact ⟨_, rfl, hS, rfl⟩

theorem an2_any {w : World} {T : TA} {S : St} (h : Tr w T S) (b0 : Nat) (x : Int) (h0 : w.cell? ⟨b0, 0, none⟩ = some (.pointer (some ⟨T.bt, 0, none⟩))) (hx : I64 x) :
    Calls Tryz.prog 85 #[.int .i64 x, .pointer (some ⟨b0, 0, none⟩)] w (Ret w fun v _ => v = .bool (S.val x != -1)) := by
  have HV := Lib.hid (lit_any h x hx)
  clear h hx
  go_enter Tryz.func85, Tryz.ntmps85
  go_wp2_with fail
  with_reducible refine HV.out.mono ?_
  rintro e w' ⟨v, rfl, hb, rfl⟩
  go_wp2_with fail
  go_ret
  exact ⟨_, rfl, hb, rfl⟩
end Go.Proofs.YtodeddappmfphaaGreatDoor
