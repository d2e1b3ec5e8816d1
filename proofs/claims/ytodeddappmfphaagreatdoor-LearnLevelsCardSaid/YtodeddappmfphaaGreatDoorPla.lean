/- The trail's Place, and learn's level, levels, Levels, Place. -/
import Derived.Deep.RegionWith
import Derived.Test.YtodeddappmfphaaGreatDoorEnt
namespace Go.Proofs.YtodeddappmfphaaGreatDoor
open Go.RowKit Go.Thd

/-- How many entries a literal needs, and whether it has a value. -/
def St.place (S : St) (k : Int) : Int := if S.val k = 0 then 0 else (S.ent (k.natAbs - 1) : Nat)

theorem St.val_is {S : St} {k : Int} (h : S.val k ≠ 0) : S.is k = true ∧ S.ent (k.natAbs - 1) ≠ 0 := by
  unfold St.val at h
  by_cases hs : S.is k = true
  · rw [if_pos hs] at h
    refine ⟨hs, fun h0 => h ?_⟩
    rw [if_pos h0]
  · rw [if_neg hs] at h; exact absurd rfl h

set_option maxRecDepth 100000 in
set_option maxHeartbeats 1000000 in
theorem place_some {w : World} {T : TA} {S : St} (h : Tr w T S) (k : Int) (hk : I64 k) (hv : S.val k ≠ 0) :
    Calls Tryz.prog 90 #[.pointer (some ⟨T.bt, 0, none⟩), .int .i64 k] w (Ret w fun v _ => v = .tuple #[.int .i64 (S.ent (k.natAbs - 1) : Nat), .bool true]) := by
  obtain ⟨hs, h0⟩ := St.val_is hv
  obtain ⟨i, hi, hin⟩ : ∃ i, k.natAbs = i + 1 ∧ i < S.n := by
    simp only [St.is, Bool.and_eq_true, decide_eq_true_eq] at hs
    exact ⟨k.natAbs - 1, by omega, by omega⟩
  rw [hi] at h0 ⊢
  have h0' : S.ent i ≠ 0 := h0
  obtain ⟨hjm, hjl⟩ := (h.ent i hin).resolve_left h0'
  obtain ⟨j, hj⟩ : ∃ j, S.ent i = j + 1 := ⟨S.ent i - 1, by omega⟩
  have HG : Hid ((S.ent (i + 1 - 1) : Int) = (j : Int) + 1) := by
    show ((S.ent i : Nat) : Int) = _
    rw [hj]; simp
  rw [HG.out]
  have hfE := h.fewE
  have hf := h.few
  have HV := Lib.hid (lit_any h k hk)
  have HVN : Hid ((S.val k == 0) = false) := by show _ = _; simpa using hv
  have HT := Lib.hid h
  have HK := Lib.hid hk
  have HI := Lib.hid hi
  have hjm' : j < S.m := by rw [hj] at hjm; omega
  clear h hv hs h0 h0' hjm hjl hk hi HG
  go_enter Tryz.func90, Tryz.ntmps90
  go_wp2_with fail
  with_reducible refine HV.out.mono ?_
  rintro e w1 ⟨v, rfl, hb, rfl⟩
  have HT1 := Lib.hid (HT.out.mono hb)
  have HB1 := Lib.hid hb
  have hb1 := HVN.out
  clear hb HT HV
  go_wp2_with fail
  obtain ⟨c1, c4, c5, c6⟩ := HT1.out.cells
  have a0 : w1.cell? ⟨T.ba, i * 10, none⟩ = some (.int .i64 6) := HT1.out.atom hin (j := 0) (by omega)
  have a1 : w1.cell? ⟨T.ba, i * 10 + 1, none⟩ = some (.slice none 0 0) := HT1.out.atom hin (j := 1) (by omega)
  have a2 : w1.cell? ⟨T.ba, i * 10 + 2, none⟩ = some (.bool false) := HT1.out.atom hin (j := 2) (by omega)
  have a3 : w1.cell? ⟨T.ba, i * 10 + 3, none⟩ = some (.slice none 0 0) := HT1.out.atom hin (j := 3) (by omega)
  have a4 : w1.cell? ⟨T.ba, i * 10 + 4, none⟩ = some (.slice none 0 0) := HT1.out.atom hin (j := 4) (by omega)
  have a5 : w1.cell? ⟨T.ba, i * 10 + 5, none⟩ = some (.int .i64 (S.A i)) := HT1.out.atom hin (j := 5) (by omega)
  have a6 : w1.cell? ⟨T.ba, i * 10 + 6, none⟩ = some (.int .i64 0) := HT1.out.atom hin (j := 6) (by omega)
  have a7 : w1.cell? ⟨T.ba, i * 10 + 7, none⟩ = some (.slice (some ⟨T.vb i, 0, none⟩) 1 (T.vc i)) := HT1.out.atom hin (j := 7) (by omega)
  have a8 : w1.cell? ⟨T.ba, i * 10 + 8, none⟩ = some (.int .i64 ((j : Int) + 1)) := by
    have := HT1.out.atom hin (j := 8) (by omega)
    simp only [atC, hj] at this
    rw [this]; simp
  have a9 : w1.cell? ⟨T.ba, i * 10 + 9, none⟩ = some (.int .i64 0) := HT1.out.atom hin (j := 9) (by omega)
  have hat := HT1.out.atomLt
  have hlt := HT1.out.lt
  have hwr : IntKind.u64.wrap (i : Int) = (i : Int) := wrap_fits (by omega) (by omega)
  have hil : (i : Int) < (S.n : Int) := by omega
  clear c4 c5 c6 hj
  refine' Code.wp_mono (Q := AtEnd ?A ?Z) ?post ?reg
  case reg =>
    go_region_with (go_at_call 60; refine (size_any _ k HK.out).mono ?_; rintro e w' ⟨v, rfl, rfl, rfl⟩; rw [HI.out])
    all_goals exact AtEnd.mk
  intro e a' w' hend
  obtain ⟨rfl, rfl, rfl⟩ := hend.is
  go_wp2_with fail
  go_ret2
  exact ⟨_, rfl, ((HB1.out.alloc HB1.out.size _).drew), rfl⟩

theorem place_none {w : World} {T : TA} {S : St} (h : Tr w T S) (k : Int) (hk : I64 k) (hv : S.val k = 0) :
    Calls Tryz.prog 90 #[.pointer (some ⟨T.bt, 0, none⟩), .int .i64 k] w (Ret w fun v _ => v = .tuple #[.int .i64 0, .bool false]) := by
  have HV := lit_any h k hk
  rw [hv] at HV
  have HV' := Lib.hid HV
  clear HV h hk hv
  go_enter Tryz.func90, Tryz.ntmps90
  go_wp2_with fail
  with_reducible refine HV'.out.mono ?_
  rintro e w1 ⟨v, rfl, hb, rfl⟩
  go_wp2_with fail
  go_ret2
  exact ⟨_, rfl, hb, rfl⟩

set_option maxRecDepth 100000 in
theorem field_lev (w : World) (a b c d e f g h i j l : Value) : (Instr.field 68 (.agg #[a, b, c, d, e, f, g, h, i, j, l]) 5).run Tryz.prog w = .ok l w := by
  rfl

/-- A literal's level; -1: it has no value. -/
def St.level (S : St) (k : Int) : Int := if S.val k = 0 then -1 else (S.e (S.ent (k.natAbs - 1) - 1)).lev

set_option maxRecDepth 100000 in
theorem level_any {w : World} {T : TA} {S : St} (h : Tr w T S) (k : Int) (hk : I64 k) (hfw : ∀ i, i < S.m → (S.e i).why.length ≤ 100000) :
    Calls Tryz.prog 137 #[.pointer (some ⟨T.bt, 0, none⟩), .int .i64 k] w (Ret w fun v _ => v = .int .i64 (S.level k)) := by
  unfold St.level
  by_cases hv : S.val k = 0
  · rw [if_pos hv]
    have HP := Lib.hid (place_none h k hk hv)
    clear h hk hv hfw
    go_enter Tryz.func137, Tryz.ntmps137
    go_wp2_with fail
    with_reducible refine HP.out.mono ?_
    rintro e w1 ⟨v, rfl, hb, rfl⟩
    go_wp2_with fail
    go_ret
    exact ⟨_, rfl, hb, rfl⟩
  · rw [if_neg hv]
    obtain ⟨hs, h0⟩ := St.val_is hv
    have hP := place_some h k hk hv
    have hin : k.natAbs - 1 < S.n := by
      simp only [St.is, Bool.and_eq_true, decide_eq_true_eq] at hs
      omega
    have hjm := (h.ent _ hin).resolve_left h0
    obtain ⟨j, hj⟩ : ∃ j, S.ent (k.natAbs - 1) = j + 1 := ⟨S.ent (k.natAbs - 1) - 1, by omega⟩
    rw [hj] at hP hjm ⊢
    have hjm' : j < S.m := by omega
    have HP := Lib.hid hP
    have HT := Lib.hid h
    have hfE := h.fewE
    have hW := hfw j hjm'
    show Calls _ _ _ _ (Ret w fun v _ => v = .int .i64 (S.e j).lev)
    clear hP hj hjm hin h0 hs hv h hk hfw
    go_enter Tryz.func137, Tryz.ntmps137
    go_wp2_with fail
    with_reducible refine HP.out.mono ?_
    rintro e w1 ⟨v, rfl, hb, rfl⟩
    have HT1 := Lib.hid (HT.out.mono hb)
    have HB := Lib.hid hb
    clear hb HT HP
    go_wp2_with fail
    with_reducible refine (entry_any HT1.out j hjm' hW).mono ?_
    rintro e w2 ⟨v, rfl, hb2, a, c, rfl, _⟩
    have hfd := field_lev w2 (.int .i64 (S.e j).kind) (.int .i64 (S.e j).lit) (.slice a (S.e j).why.length c) (.int .i64 0) (.int .i64 0) (.bool false) (.bool false) (.slice none 0 0) (.slice none 0 0) (.int .i64 0) (.int .i64 (S.e j).lev)
    go_wp2_with fail
    go_ret
    exact ⟨_, rfl, HB.out.trans (hb2.mono HB.out.size), rfl⟩

theorem learnPlace_some {w : World} {T : TA} {S : St} (h : Tr w T S) (k : Int) (hk : I64 k) (hv : S.val k ≠ 0) :
    Calls Tryz.prog 38 #[.pointer (some ⟨T.bt, 0, none⟩), .int .i64 k] w (Ret w fun v _ => v = .tuple #[.int .i64 (S.ent (k.natAbs - 1) : Nat), .bool true]) := by
  have HP := Lib.hid (place_some h k hk hv)
  clear h hk hv
  go_enter Tryz.func38, Tryz.ntmps38
  go_wp2_with fail
  with_reducible refine HP.out.mono ?_
  rintro e w1 ⟨v, rfl, hb, rfl⟩
  go_wp2_with fail
  go_ret2
  exact ⟨_, rfl, hb, rfl⟩

theorem learnPlace_none {w : World} {T : TA} {S : St} (h : Tr w T S) (k : Int) (hk : I64 k) (hv : S.val k = 0) :
    Calls Tryz.prog 38 #[.pointer (some ⟨T.bt, 0, none⟩), .int .i64 k] w (Ret w fun v _ => v = .tuple #[.int .i64 0, .bool false]) := by
  have HP := Lib.hid (place_none h k hk hv)
  clear h hk hv
  go_enter Tryz.func38, Tryz.ntmps38
  go_wp2_with fail
  with_reducible refine HP.out.mono ?_
  rintro e w1 ⟨v, rfl, hb, rfl⟩
  go_wp2_with fail
  go_ret2
  exact ⟨_, rfl, hb, rfl⟩
end Go.Proofs.YtodeddappmfphaaGreatDoor
