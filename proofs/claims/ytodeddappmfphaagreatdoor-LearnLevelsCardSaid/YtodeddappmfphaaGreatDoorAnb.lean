/- learn's Analyze where it is refused, or asked for nothing, or for one. -/
import Derived.Test.YtodeddappmfphaaGreatDoorAna
namespace Go.Proofs.YtodeddappmfphaaGreatDoor
open Go.RowKit Go.Thd

set_option maxRecDepth 100000 in
theorem analyze_nil (w : World) (T : TA) : Calls Tryz.prog 36 #[.pointer (some ⟨T.bt, 0, none⟩), .slice none 0 0] w (Ret w fun v _ => v = .tuple #[.slice none 0 0, .int .i64 (-1), .int .i64 0]) := by
  go_enter Tryz.func36, Tryz.ntmps36
  go_wp2_with fail
  with_reducible refine (norm_nil _).mono ?_
  rintro e w1 ⟨v, rfl, hb, rfl⟩
  have HB : Hid (Below w.heap.size w w1) := ((Below.refl _ _).alloc (Nat.le_refl _) _).trans (hb.mono (by simp))
  clear hb
  go_wp2_with fail
  refine (containsFunc_any w1 none 0 [] ⟨Nat.le_refl _, .inl rfl⟩ (by simp) 83 #[.pointer (some ⟨w.heap.size, 0, none⟩)] (fun _ => false) Tryz.func83 rfl (by kernel_rfl) (fun w2 x hx => by simp at hx)).mono ?_
  rintro e w2 ⟨v, rfl, hb2, rfl⟩
  have HB2 := Lib.hid (HB.out.trans (hb2.mono HB.out.size))
  clear hb2
  go_wp2_with fail
  refine (containsFunc_any w2 none 0 [] ⟨Nat.le_refl _, .inl rfl⟩ (by simp) 85 #[.pointer (some ⟨w.heap.size, 0, none⟩)] (fun _ => false) Tryz.func85 rfl (by kernel_rfl) (fun w2 x hx => by simp at hx)).mono ?_
  rintro e w3 ⟨v, rfl, hb3, rfl⟩
  have HB3 := Lib.hid (HB2.out.trans (hb3.mono HB2.out.size))
  clear hb3
  go_wp2_with fail
  refine wp_loop_rounds 1 ?_
  rw [rounds_succ]
  go_wp2_with fail
  exact bodyPost_ret (v := .tuple #[.slice none 0 0, .int .i64 (-1), .int .i64 0]) (by simp [results, Tryz.results36, go_sem]) rfl ⟨_, rfl, HB3.out, rfl⟩

set_option maxRecDepth 100000 in
theorem analyze_always (w : World) (T : TA) (a : Option Addr) (c : Nat) (x y : Int) (hl : Ints w a c [x, y]) (hx : x ≠ 0) (hy : y ≠ 0) (hxI : I64 x) (hyI : I64 y) (hne : x ≠ y) (hab : x.natAbs = y.natAbs) :
    Calls Tryz.prog 36 #[.pointer (some ⟨T.bt, 0, none⟩), .slice a 2 c] w (Ret w fun v _ => v = .tuple #[.slice none 0 0, .int .i64 0, .int .i64 1]) := by
  have HN := norm_two (w := w.alloc (.cells #[.pointer (some ⟨T.bt, 0, none⟩)] 33)) a c x y (hl.mono ((Below.refl _ _).alloc (Nat.le_refl _) _)) hx hy hxI hyI
  have HNN := Lib.hid HN
  have HNE := Lib.hid hne
  have HAB := Lib.hid hab
  clear HN hl hx hy hxI hyI hne hab
  go_enter Tryz.func36, Tryz.ntmps36
  go_wp2_with fail
  with_reducible refine HNN.out.mono ?_
  rintro e w1 ⟨v, rfl, hb, hcase⟩
  rw [if_neg HNE.out, if_pos HAB.out] at hcase
  subst hcase
  have HB : Hid (Below w.heap.size w w1) := ((Below.refl _ _).alloc (Nat.le_refl _) _).trans (hb.mono (by simp))
  clear hb
  go_wp2_with fail
  exact bodyPost_ret (v := .tuple #[.slice none 0 0, .int .i64 0, .int .i64 1]) (by simp [results, Tryz.results36, go_sem]) rfl ⟨_, rfl, HB.out, rfl⟩

set_option maxRecDepth 100000 in
set_option maxHeartbeats 400000 in
theorem analyze_state {w : World} {T : TA} {S : St} (h : Tr w T S) (a : Option Addr) (c : Nat) (x : Int) (hl : Ints w a c [x]) (hx : x ≠ 0) (hxI : I64 x) (hin : x.natAbs ≤ S.n) (hv : S.val x ≠ -1) :
    Calls Tryz.prog 36 #[.pointer (some ⟨T.bt, 0, none⟩), .slice a 1 c] w (Ret w fun v _ => v = .tuple #[.slice none 0 0, .int .i64 0, .int .i64 6]) := by
  have HT := Lib.hid h
  have HL := Lib.hid hl
  have HX := Lib.hid hx
  have HXI := Lib.hid hxI
  have HIN := Lib.hid hin
  have HV : Hid ([x].any (fun k => S.val k != -1) = true) := by show _ = _; simpa using hv
  clear h hl hx hxI hin hv
  go_enter Tryz.func36, Tryz.ntmps36
  go_wp2_with fail
  obtain ⟨W, hW⟩ : ∃ W, w.alloc (.cells #[.pointer (some ⟨T.bt, 0, none⟩)] 33) = W := ⟨_, rfl⟩
  have hBW : Below w.heap.size w W := by rw [← hW]; exact (Below.refl _ _).alloc (Nat.le_refl _) _
  have hz : w.heap.size < W.heap.size := by rw [← hW]; simp
  have hc : W.cell? ⟨w.heap.size, 0, none⟩ = some (.pointer (some ⟨T.bt, 0, none⟩)) := by rw [← hW]; simp [go_sem]
  rw [hW]
  clear hW
  have HBW := Lib.hid hBW
  with_reducible refine (norm_one a c x (HL.out.mono hBW) HX.out).mono ?_
  rintro e w1 ⟨v, rfl, hb, b, c1, rfl, h1c, _, hblt, k0⟩
  have d0 : w1.cell? ⟨w.heap.size, 0, none⟩ = some (.pointer (some ⟨T.bt, 0, none⟩)) := (hb.cell (p := ⟨w.heap.size, 0, none⟩) hz).trans hc
  have hz1 : w.heap.size < w1.heap.size := Nat.lt_of_lt_of_le hz hb.size
  have HB1 := Lib.hid (HBW.out.trans (hb.mono HBW.out.size))
  have HL1 : Hid (Ints w1 (some ⟨b, 0, none⟩) c1 [x]) := ⟨h1c, .inr ⟨b, 0, rfl, hblt, fun j hj => by
    match j, hj with
    | 0, _ => exact k0⟩⟩
  clear hb hc hz hBW k0
  go_wp2_with fail
  refine (containsFunc_any w1 (some ⟨b, 0, none⟩) c1 [x] HL1.out (by simp) 83 #[.pointer (some ⟨w.heap.size, 0, none⟩)] (fun _ => false) Tryz.func83 rfl (by kernel_rfl)
    (fun w2 y hy hb => by
      have hy' : y = x := by simpa using hy
      subst hy'
      exact an1_any ((HT.out.mono HB1.out).mono hb) w.heap.size y ((hb.cell (p := ⟨w.heap.size, 0, none⟩) hz1).trans d0) HXI.out HX.out HIN.out)).mono ?_
  rintro e w2 ⟨v, rfl, hb2, rfl⟩
  have e0 : w2.cell? ⟨w.heap.size, 0, none⟩ = some (.pointer (some ⟨T.bt, 0, none⟩)) := (hb2.cell (p := ⟨w.heap.size, 0, none⟩) hz1).trans d0
  have hz2 : w.heap.size < w2.heap.size := Nat.lt_of_lt_of_le hz1 hb2.size
  have HB2 := Lib.hid (HB1.out.trans (hb2.mono HB1.out.size))
  have HL2 := Lib.hid (HL1.out.mono hb2)
  clear hb2
  go_wp2_with fail
  refine (containsFunc_any w2 (some ⟨b, 0, none⟩) c1 [x] HL2.out (by simp) 85 #[.pointer (some ⟨w.heap.size, 0, none⟩)] (fun k => S.val k != -1) Tryz.func85 rfl (by kernel_rfl)
    (fun w3 y hy hb => by
      have hy' : y = x := by simpa using hy
      subst hy'
      exact an2_any ((HT.out.mono HB2.out).mono hb) w.heap.size y ((hb.cell (p := ⟨w.heap.size, 0, none⟩) hz2).trans e0) HXI.out)).mono ?_
  rintro e w3 ⟨v, rfl, hb3, rfl⟩
  have HB3 := Lib.hid (HB2.out.trans (hb3.mono HB2.out.size))
  clear hb3
  rw [HV.out]
  go_wp2_with fail
  exact bodyPost_ret (v := .tuple #[.slice none 0 0, .int .i64 0, .int .i64 6]) (by simp [results, Tryz.results36, go_sem]) rfl ⟨_, rfl, HB3.out, rfl⟩
end Go.Proofs.YtodeddappmfphaaGreatDoor
