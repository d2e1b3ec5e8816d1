/- learn's forced. -/
import Derived.Test.YtodeddappmfphaaGreatDoorRes
namespace Go.Proofs.YtodeddappmfphaaGreatDoor
open Go.RowKit Go.Thd

theorem place_any {w : World} {T : TA} {S : St} (h : Tr w T S) (k : Int) (hk : I64 k) :
    Calls Tryz.prog 90 #[.pointer (some ⟨T.bt, 0, none⟩), .int .i64 k] w (Ret w fun v _ => ∃ o, v = .tuple #[.int .i64 (S.place k), .bool o]) := by
  unfold St.place
  by_cases hv : S.val k = 0
  · rw [if_pos hv]
    exact (place_none h k hk hv).mono fun e w' ⟨v, he, hb, hv⟩ => ⟨v, he, hb, false, hv⟩
  · rw [if_neg hv]
    exact (place_some h k hk hv).mono fun e w' ⟨v, he, hb, hv⟩ => ⟨v, he, hb, true, hv⟩

/-- The greatest place. -/
def St.most (S : St) (l : List Int) : Int := l.foldl (fun m x => max m (S.place x)) 0
theorem most_step (S : St) {l : List Int} {k : Nat} (hk : k < l.length) : S.most (l.take (k + 1)) = max (S.most (l.take k)) (S.place (l.getD k 0)) := by
  unfold St.most
  rw [show l.take (k + 1) = l.take k ++ [l[k]] from by rw [List.take_add_one, List.getElem?_eq_getElem hk]; rfl, List.foldl_append, getD_eq l hk]
  rfl

set_option maxRecDepth 100000 in
set_option maxHeartbeats 1000000 in
theorem forced_yes {w : World} {T : TA} {S : St} (h : Tr w T S) (a : Option Addr) (c : Nat) (l : List Int) (hl : Ints w a c l) (hn : l.length ≤ 1000) (hI : ∀ x ∈ l, I64 x) (j : Nat) (hj : S.most l = (j : Int) + 1) (hjm : j < S.m)
    (hfw : (S.e j).why.length ≤ 100000) (hli : I64 (S.e j).lit) (hk2 : (S.e j).kind = 2) (hct : l.contains (-(S.e j).lit) = true) (hl0 : -1000000 ≤ (S.e j).lit ∧ (S.e j).lit ≤ 1000000) :
    Calls Tryz.prog 88 #[.pointer (some ⟨T.bt, 0, none⟩), .slice a l.length c] w (Ret w fun v w' => ∃ a' c', v = .tuple #[.int .i64 (-(S.e j).lit), .slice a' (S.e j).why.length c', .bool true] ∧ Ints w' a' c' (S.e j).why) := by
  have HT := Lib.hid h
  have HL := Lib.hid hl
  have HI := Lib.hid hI
  have HJ := Lib.hid hj
  have HW := Lib.hid hfw
  have HK2 : Hid (((S.e j).kind != 2) = false) := by show _ = _; simp [hk2]
  have HCT := Lib.hid hct
  have hfE := h.fewE
  clear h hl hI hj hfw hk2 hct
  go_enter Tryz.func88, Tryz.ntmps88
  go_wp2_with fail
  go_loopw [15, 7] (fun vi vm wr => ∃ k : Nat, k ≤ l.length ∧ vi = .int .i64 k ∧ vm = .int .i64 (S.most (l.take k)) ∧ Below w.heap.size w wr) (fun vi _ _ => (l.length - intZ vi).toNat)
  case atStart => exact ⟨0, Nat.zero_le _, rfl, rfl, Below.refl _ _⟩
  case round =>
    obtain ⟨k, hk, rfl, rfl, hB⟩ := hrel
    have HB := Lib.hid hB
    clear hB
    by_cases h0 : k = l.length
    · subst h0
      have HJ2 : Hid (S.most (l.take l.length) = (j : Int) + 1) := by show _ = _; rw [List.take_length]; exact HJ.out
      rw [HJ2.out]
      go_wp2_with fail
      with_reducible refine (entry_any (HT.out.mono HB.out) j hjm HW.out).mono ?_
      rintro e w2 ⟨v, rfl, hb2, a2, c2, rfl, hw2⟩
      have hkb := HK2.out
      have HB2 := Lib.hid (HB.out.trans (hb2.mono HB.out.size))
      have HW2 := Lib.hid hw2
      clear hb2 hw2
      generalize (S.e j).kind = kk at hkb ⊢
      generalize (S.e j).lev = vv
      go_wp2_with fail
      have hcon := contains_ints _ a c l (-(S.e j).lit) ((HL.out.mono HB2.out).mono ((Below.refl _ _).alloc (Nat.le_refl _) (.cells #[.int .i64 kk, .int .i64 (S.e j).lit, .slice a2 (S.e j).why.length c2, .int .i64 0, .int .i64 0, .bool false, .bool false, .slice none 0 0, .slice none 0 0, .int .i64 0, .int .i64 vv] 68))) (by omega)
      rw [HCT.out] at hcon
      have HCN := Lib.hid hcon
      clear hcon
      refine HCN.out.mono ?_
      rintro e w' ⟨v, rfl, rfl, rfl⟩
      go_wp2_with fail
      go_quiet (fail)
      go_wp2_with fail
      exact bodyPost_ret (v := .tuple #[.int .i64 (-(S.e j).lit), .slice a2 (S.e j).why.length c2, .bool true]) (by simp [results, Tryz.results88, go_sem]) rfl
        ⟨_, rfl, (HB2.out.alloc HB2.out.size _).drewN _, a2, c2, rfl, HW2.out.mono (((Below.refl _ _).alloc (Nat.le_refl _) _).drewN _)⟩
    · have hkl : k < l.length := by omega
      obtain ⟨b, off, rfl, hb, hcell⟩ := (HL.out.mono HB.out).2.resolve_left (by intro e; subst e; simp at hkl)
      have h1 := hcell k hkl
      have hx : l.getD k 0 ∈ l := by rw [getD_eq l hkl]; exact List.getElem_mem hkl
      have HX := Lib.hid (HI.out _ hx)
      have HM := Lib.hid (most_step S hkl)
      clear hcell hx
      generalize l.getD k 0 = x at h1 HX HM
      generalize S.most (l.take k) = m at HM ⊢
      go_wp2_with fail
      with_reducible refine (place_any (HT.out.mono HB.out) x HX.out).mono ?_
      rintro e w2 ⟨v, rfl, hb2, o, rfl⟩
      have HB2 := Lib.hid (HB.out.trans (hb2.mono HB.out.size))
      clear hb2
      go_wp2_with fail
      go_roundw
      case rel => exact ⟨k + 1, by omega, by simp, by rw [HM.out], HB2.out⟩
      case measure => simp [intZ]; omega

set_option maxRecDepth 100000 in
set_option maxHeartbeats 1000000 in
theorem forced_no {w : World} {T : TA} {S : St} (h : Tr w T S) (a : Option Addr) (c : Nat) (l : List Int) (hl : Ints w a c l) (hn : l.length ≤ 1000) (hI : ∀ x ∈ l, I64 x) (j : Nat) (hj : S.most l = (j : Int) + 1) (hjm : j < S.m)
    (hfw : (S.e j).why.length ≤ 100000) (hk2 : (S.e j).kind ≠ 2) :
    Calls Tryz.prog 88 #[.pointer (some ⟨T.bt, 0, none⟩), .slice a l.length c] w (Ret w fun v _ => v = .tuple #[.int .i64 0, .slice none 0 0, .bool false]) := by
  have HT := Lib.hid h
  have HL := Lib.hid hl
  have HI := Lib.hid hI
  have HJ := Lib.hid hj
  have HW := Lib.hid hfw
  have HK2 : Hid (((S.e j).kind != 2) = true) := by show _ = _; simpa using hk2
  have hfE := h.fewE
  clear h hl hI hj hfw hk2
  go_enter Tryz.func88, Tryz.ntmps88
  go_wp2_with fail
  go_loopw [15, 7] (fun vi vm wr => ∃ k : Nat, k ≤ l.length ∧ vi = .int .i64 k ∧ vm = .int .i64 (S.most (l.take k)) ∧ Below w.heap.size w wr) (fun vi _ _ => (l.length - intZ vi).toNat)
  case atStart => exact ⟨0, Nat.zero_le _, rfl, rfl, Below.refl _ _⟩
  case round =>
    obtain ⟨k, hk, rfl, rfl, hB⟩ := hrel
    have HB := Lib.hid hB
    clear hB
    by_cases h0 : k = l.length
    · subst h0
      have HJ2 : Hid (S.most (l.take l.length) = (j : Int) + 1) := by show _ = _; rw [List.take_length]; exact HJ.out
      rw [HJ2.out]
      go_wp2_with fail
      with_reducible refine (entry_any (HT.out.mono HB.out) j hjm HW.out).mono ?_
      rintro e w2 ⟨v, rfl, hb2, a2, c2, rfl, hw2⟩
      have hkb := HK2.out
      have HB2 := Lib.hid (HB.out.trans (hb2.mono HB.out.size))
      clear hb2 hw2
      generalize (S.e j).kind = kk at hkb ⊢
      go_wp2_with fail
      exact bodyPost_ret (v := .tuple #[.int .i64 0, .slice none 0 0, .bool false]) (by simp [results, Tryz.results88, go_sem]) rfl ⟨_, rfl, HB2.out.alloc HB2.out.size _, rfl⟩
    · have hkl : k < l.length := by omega
      obtain ⟨b, off, rfl, hb, hcell⟩ := (HL.out.mono HB.out).2.resolve_left (by intro e; subst e; simp at hkl)
      have h1 := hcell k hkl
      have hx : l.getD k 0 ∈ l := by rw [getD_eq l hkl]; exact List.getElem_mem hkl
      have HX := Lib.hid (HI.out _ hx)
      have HM := Lib.hid (most_step S hkl)
      clear hcell hx
      generalize l.getD k 0 = x at h1 HX HM
      generalize S.most (l.take k) = m at HM ⊢
      go_wp2_with fail
      with_reducible refine (place_any (HT.out.mono HB.out) x HX.out).mono ?_
      rintro e w2 ⟨v, rfl, hb2, o, rfl⟩
      have HB2 := Lib.hid (HB.out.trans (hb2.mono HB.out.size))
      clear hb2
      go_wp2_with fail
      go_roundw
      case rel => exact ⟨k + 1, by omega, by simp, by rw [HM.out], HB2.out⟩
      case measure => simp [intZ]; omega
end Go.Proofs.YtodeddappmfphaaGreatDoor
