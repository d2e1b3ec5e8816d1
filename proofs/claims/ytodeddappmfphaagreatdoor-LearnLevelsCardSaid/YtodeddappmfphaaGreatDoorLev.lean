/- An append of an int; learn's levels, Levels. -/
import Derived.Test.YtodeddappmfphaaGreatDoorPla
namespace Go.Proofs.YtodeddappmfphaaGreatDoor
open Go.RowKit Go.Thd

set_option maxRecDepth 100000 in
theorem append_int {W : World} {v : Value} {l : List Int} (h : OwnI W v l) (x : Int) (hn : l.length < 100000) :
    ∃ v' w', (Builtin.append_ #[29, 29] 29 #[v, .slice (some ⟨W.heap.size, 0, none⟩) 1 1]).run Tryz.prog (W.alloc (.cells #[.int .i64 x] 3)) = .ok v' w' ∧ OwnI w' v' (l ++ [x]) ∧
      Upd (fun b => v.ownBlock = some b) W w' ∧ ∀ b, v'.ownBlock = some b → v.ownBlock = some b ∨ W.heap.size ≤ b := by
  have hB1 : Below W.heap.size W (W.alloc (.cells #[.int .i64 x] 3)) := (Below.refl _ _).alloc (Nat.le_refl _) _
  obtain ⟨i0, hi1, hi2, hi3, hi4⟩ : ∃ i, (Tryz.prog).info? 3 = some i ∧ i.zero = some (.int .i64 0) ∧ i.size = 1 ∧ i.bytes = 8 := ⟨_, rfl, by kernel_rfl, by kernel_rfl, by kernel_rfl⟩
  obtain ⟨v', w', hrun, hown, hgr, _, hblk⟩ := run_append_own_at (P := Tryz.prog) (W.alloc (.cells #[.int .i64 x] 3)) 0 29 29 3 i0 _ 1 8 Tryz.underlying29 hi1 hi2 hi3 hi4 rfl (by decide)
    v l.length _ (h.mono hB1) ⟨W.heap.size, 0, none⟩ 1 1 [.int .i64 x] rfl (fun j u hj => news_cells W [.int .i64 x] _ j u hj) (by intro u hu; simp at hu; subst hu; rfl) (by unfold maxLen; omega) (by omega) (by simp)
  refine ⟨v', w', hrun, ?_, Upd.trans (.of hB1) (.grown hgr (fun k hk => hk)), ?_⟩
  · have : OwnI w' v' (l ++ [x]) ↔ w'.ownsRow 0 3 1 v' (l.length + 1) (l.map (Value.int .i64) ++ [.int .i64 x]) := by
      unfold OwnI; simp
    exact this.2 hown
  · intro b hb
    rcases hblk with h | h
    · exact .inl (h ▸ hb)
    · rw [h] at hb; injection hb with hb; simp at hb; exact .inr (by omega)

set_option maxRecDepth 100000 in
theorem levels_any {w : World} {T : TA} {S : St} (h : Tr w T S) (a : Option Addr) (c : Nat) (l : List Int) (hl : Ints w a c l) (hn : l.length ≤ 1000) (hI : ∀ x ∈ l, I64 x) (hfw : ∀ i, i < S.m → (S.e i).why.length ≤ 100000) :
    Calls Tryz.prog 87 #[.pointer (some ⟨T.bt, 0, none⟩), .slice a l.length c] w (Ret w fun v w' => OwnI w' v (l.map S.level) ∧ ∀ b, v.ownBlock = some b → w.heap.size ≤ b) := by
  have HT := Lib.hid h
  have HL := Lib.hid hl
  have HI := Lib.hid hI
  have HF := Lib.hid hfw
  clear h hl hI hfw
  go_enter Tryz.func87, Tryz.ntmps87
  go_wp2_with fail
  go_loopw [9, 4] (fun vi vo wr => ∃ k : Nat, k ≤ l.length ∧ vi = .int .i64 k ∧ Below w.heap.size w wr ∧ OwnI wr vo ((l.take k).map S.level) ∧ ∀ b, vo.ownBlock = some b → w.heap.size ≤ b) (fun vi _ _ => (l.length - intZ vi).toNat)
  case atStart => exact ⟨0, Nat.zero_le _, rfl, Below.refl _ _, OwnI.nil _, fun b hb => by simp [Value.ownBlock] at hb⟩
  case round =>
    obtain ⟨k, hk, rfl, hB, hO, hF⟩ := hrel
    have HB := Lib.hid hB
    have HO := Lib.hid hO
    have HFR := Lib.hid hF
    clear hB hO hF
    by_cases h0 : k = l.length
    · subst h0
      go_wp2_with fail
      go_ret
      refine ⟨_, rfl, HB.out, ?_, HFR.out⟩
      have := HO.out
      rwa [List.take_length] at this
    · have hkl : k < l.length := by omega
      obtain ⟨b, off, rfl, hb, hcell⟩ := (HL.out.mono HB.out).2.resolve_left (by intro e; subst e; simp at hkl)
      have h1 := hcell k hkl
      have hx : l.getD k 0 ∈ l := by rw [getD_eq l hkl]; exact List.getElem_mem hkl
      have HX := Lib.hid (HI.out _ hx)
      have HTK : Hid ((l.take (k + 1)).map S.level = (l.take k).map S.level ++ [S.level (l.getD k 0)]) := by
        show _ = _
        rw [show l.take (k + 1) = l.take k ++ [l[k]] from by rw [List.take_add_one, List.getElem?_eq_getElem hkl]; rfl, List.map_append, getD_eq l hkl]; rfl
      clear hcell hx
      generalize l.getD k 0 = x at h1 HX HTK
      go_wp2_with fail
      with_reducible refine (level_any (HT.out.mono HB.out) x HX.out HF.out).mono ?_
      rintro e w1 ⟨v, rfl, hb1, rfl⟩
      obtain ⟨v', w2, hrun, hO2, hU, hfr⟩ := append_int (HO.out.mono hb1) (S.level x) (by simp; omega)
      have HR := Lib.hid hrun
      have HO2 := Lib.hid hO2
      have hB2 : Below w.heap.size w w2 := HB.out.trans ((hb1.mono HB.out.size).trans (hU.below (fun k hk hF => by have := HFR.out k hF; omega) (Nat.le_trans HB.out.size hb1.size)))
      have HB2 := Lib.hid hB2
      have hF2 : ∀ b, v'.ownBlock = some b → w.heap.size ≤ b := fun b hb => by
        rcases hfr b hb with h | h
        · exact HFR.out b h
        · exact Nat.le_trans HB.out.size (Nat.le_trans hb1.size h)
      have HF2 := Lib.hid hF2
      clear hrun hO2 hU hfr hB2 hF2 hb1
      go_wp2_with (at_builtin; go_must (refine wpList_append_by rfl _ _ 29 rfl _ _ _ _ rfl rfl HR.out ?_))
      go_roundw
      case rel => exact ⟨k + 1, by omega, by simp, HB2.out, by rw [HTK.out]; exact HO2.out, HF2.out⟩
      case measure => simp [intZ]; omega

/-- Levels, where each has a value. -/
theorem Levels_ok {w : World} {T : TA} {S : St} (h : Tr w T S) (a : Option Addr) (c : Nat) (l : List Int) (hl : Ints w a c l) (hn : l.length ≤ 1000) (hI : ∀ x ∈ l, I64 x) (hfw : ∀ i, i < S.m → (S.e i).why.length ≤ 100000)
    (hall : ∀ x ∈ l, S.level x ≠ -1) :
    Calls Tryz.prog 39 #[.pointer (some ⟨T.bt, 0, none⟩), .slice a l.length c] w (Ret w fun v w' => ∃ u, v = .tuple #[u, .int .i64 0] ∧ OwnI w' u (l.map S.level) ∧ ∀ b, u.ownBlock = some b → w.heap.size ≤ b) := by
  have HL := Lib.hid (levels_any h a c l hl hn hI hfw)
  have HC : Hid ((l.map S.level).contains (-1) = false) := by
    show _ = _
    rw [List.contains_eq_any_beq, List.any_eq_false]
    intro x hx
    obtain ⟨y, hy, rfl⟩ := List.mem_map.1 hx
    have := hall y hy
    simp; omega
  clear h hl hI hfw hall
  go_enter Tryz.func39, Tryz.ntmps39
  go_wp2_with fail
  with_reducible refine HL.out.mono ?_
  rintro e w1 ⟨v, rfl, hb, hO, hF⟩
  obtain ⟨a', c', rfl, hi, _⟩ := hO.slice
  rw [List.length_map] at hO hF
  have HO := Lib.hid hO
  have HF := Lib.hid hF
  have HB := Lib.hid hb
  clear hO hF hb
  go_wp2_with fail
  have hcon := contains_ints w1 a' c' (l.map S.level) (-1) hi (by simp; omega)
  rw [HC.out, List.length_map] at hcon
  with_reducible refine hcon.mono ?_
  rintro e w2 ⟨v, rfl, rfl, rfl⟩
  go_wp2_with fail
  go_ret2
  exact ⟨_, rfl, HB.out, _, rfl, HO.out, HF.out⟩

/-- .. and where one has none. -/
theorem Levels_none {w : World} {T : TA} {S : St} (h : Tr w T S) (a : Option Addr) (c : Nat) (l : List Int) (hl : Ints w a c l) (hn : l.length ≤ 1000) (hI : ∀ x ∈ l, I64 x) (hfw : ∀ i, i < S.m → (S.e i).why.length ≤ 100000)
    (hall : ∃ x ∈ l, S.level x = -1) :
    Calls Tryz.prog 39 #[.pointer (some ⟨T.bt, 0, none⟩), .slice a l.length c] w (Ret w fun v _ => v = .tuple #[.slice none 0 0, .int .i64 6]) := by
  have HL := Lib.hid (levels_any h a c l hl hn hI hfw)
  have HC : Hid ((l.map S.level).contains (-1) = true) := by
    show _ = _
    obtain ⟨x, hx, he⟩ := hall
    rw [List.contains_eq_any_beq, List.any_eq_true]
    exact ⟨_, List.mem_map.2 ⟨x, hx, rfl⟩, by rw [he]; rfl⟩
  clear h hl hI hfw hall
  go_enter Tryz.func39, Tryz.ntmps39
  go_wp2_with fail
  with_reducible refine HL.out.mono ?_
  rintro e w1 ⟨v, rfl, hb, hO, hF⟩
  obtain ⟨a', c', rfl, hi, _⟩ := hO.slice
  have HO := Lib.hid hO
  have HB := Lib.hid hb
  clear hO hF hb
  go_wp2_with fail
  have hcon := contains_ints w1 a' c' (l.map S.level) (-1) hi (by simp; omega)
  rw [HC.out, List.length_map] at hcon
  with_reducible refine hcon.mono ?_
  rintro e w2 ⟨v, rfl, rfl, rfl⟩
  go_wp2_with fail
  go_ret2
  exact ⟨_, rfl, HB.out, rfl⟩
end Go.Proofs.YtodeddappmfphaaGreatDoor
