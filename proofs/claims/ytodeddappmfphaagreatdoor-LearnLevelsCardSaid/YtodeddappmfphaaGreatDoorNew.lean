/- trail.New, of a problem of Bools and of atoms that speak of one each. -/
import Derived.Test.YtodeddappmfphaaGreatDoorAdd
namespace Go.Proofs.YtodeddappmfphaaGreatDoor
open Go.RowKit Go.Thd

/-- A trail of n atoms and no entries. -/
def S0 (n : Nat) (A : Nat → Nat) : St := { n := n, A := fun i => (A i : Nat), m := 0, e := fun _ => ⟨0, 0, [], 0⟩, ent := fun _ => 0, lv := 0 }

theorem TB.tr {w : World} {bt mv mat mof : Nat} {ms av : Value} {vb vc : Nat → Nat} {n : Nat} {A : Nat → Nat} (h : TB w bt mv mat mof ms av vb vc n A) (h0 : 0 < n) (hn : n ≤ 1000) (hA : ∀ j, j < n → A j < 100) :
    ∃ T, T.bt = bt ∧ Tr w T (S0 n A) ∧ ∀ j, T.F j → j = bt ∨ av.ownBlock = some j := by
  obtain ⟨g, c, rfl⟩ : ∃ g c, av = .slice (some ⟨g, 0, none⟩) n c := by
    rcases h.row.2 with ⟨_, h1⟩ | ⟨g, cap, cur, hv, _⟩
    · omega
    · exact ⟨g, cap, hv⟩
  have hg : (Value.slice (some ⟨g, 0, none⟩) n c).ownBlock = some g := rfl
  refine ⟨⟨bt, g, c, mv, ms, .map (some mat), .map (some mof), .slice none 0 0, vb, vc, fun _ => none, fun _ => 0⟩, rfl, ?_, ?_⟩
  · refine { head := h.head, atoms := ?_, ents := World.ownsRow_nil w 0 68 11, vals := h.vals, vars := ?_, whys := fun i hi => absurd hi (by show ¬ i < 0; omega), ne1 := ?_, ne2 := by simp [Value.ownBlock], ne3 := by simp [Value.ownBlock], ne4 := ?_, ent := fun i _ => .inl rfl, few := hn, fewE := by show 0 ≤ 1000; omega, pos := h0, lvl := by show (0 : Int) ≤ 0 ∧ (0 : Int) ≤ 1000; omega }
    · have e1 : rowC n 10 (atC ⟨bt, g, c, mv, ms, .map (some mat), .map (some mof), .slice none 0 0, vb, vc, fun _ => none, fun _ => 0⟩ (S0 n A)) = rowC n 10 (atK vb vc A) := by
        refine rowC_congr fun i j hi hj => ?_
        unfold atC atK S0
        match j, hj with
        | 0, _ => rfl
        | 1, _ => rfl
        | 2, _ => rfl
        | 3, _ => rfl
        | 4, _ => rfl
        | 5, _ => rfl
        | 6, _ => rfl
        | 7, _ => rfl
        | 8, _ => rfl
        | 9, _ => rfl
      show World.ownsRow _ 0 _ 10 _ n (rowC n 10 _)
      rw [e1]
      exact h.row
    · intro i hi
      obtain ⟨h1, h2, h3, h4⟩ := h.vars i hi
      have := hA i hi
      refine ⟨h1, by show (0 : Int) ≤ (A i : Nat); omega, by show I64 (A i : Nat); unfold I64; omega, ?_, h2⟩
      rintro (e | e | e)
      · exact h3 e
      · exact h4 (by rw [hg]; exact congrArg some e.symm)
      · simp [Value.ownBlock] at e
    · intro e
      exact h.n1 (by rw [hg]; exact congrArg some e.symm)
    · rintro (e | e | e)
      · exact h.vals.ne h.head e.symm
      · exact h.vals.neR h.row (by rw [hg]; exact congrArg some e.symm)
      · simp [Value.ownBlock] at e
  · rintro j (e | e | e)
    · exact .inl e
    · exact .inr (by rw [hg]; exact congrArg some e.symm)
    · simp [Value.ownBlock] at e

theorem TB.zero {w : World} {bt mv mat mof : Nat} {ms : Value} {A : Nat → Nat} (h : w.heap[bt]? = some (.cells #[ms, .slice none 0 0, .map (some mat), .map (some mof), .map (some mv), .slice none 0 0, .int .i64 0] 103 (0, 0)))
    (h1 : MapV w Tryz.prog 9 mat 0 (fun _ => none)) (h2 : MapV w Tryz.prog 3 mof 0 (fun _ => none)) (h3 : MapV w Tryz.prog 3 mv 0 (fun _ => none)) (d1 : mat ≠ mof) (d2 : mat ≠ mv) (d3 : mof ≠ mv) : TB w bt mv mat mof ms (.slice none 0 0) (fun _ => 0) (fun _ => 0) 0 A where
  head := h
  row := World.ownsRow_nil w 0 122 10
  at_ := ⟨0, _, Nat.le_refl _, h1⟩
  of_ := ⟨0, fun _ => none, Nat.le_refl _, by rw [onI_none]; exact h2, fun _ _ => rfl⟩
  vals := h3
  vars := fun i hi => by omega
  n1 := by simp [Value.ownBlock]
  d1 := d1
  d2 := d2
  d3 := d3

set_option maxRecDepth 100000 in
set_option maxHeartbeats 1000000 in
theorem new_ok (w : World) (bv cv ba ca : Nat) (zs : List I6) (n : Nat) (A : Nat → Nat) (h : Prob w bv cv ba ca zs n A) (h0 : 0 < n) (hn : n ≤ 1000) :
    Calls Tryz.prog 12 #[.agg #[.slice (some ⟨bv, 0, none⟩) zs.length cv, .slice (some ⟨ba, 0, none⟩) n ca, .slice none 0 0, .slice none 0 0]] w
      (Ret w fun v w' => ∃ T, v = .tuple #[.pointer (some ⟨T.bt, 0, none⟩), .int .i64 0] ∧ Tr w' T (S0 n A) ∧ ∀ j, T.F j → w.heap.size ≤ j) := by
  have hmm := @run_makeMap Tryz.prog
  have H := Lib.hid h
  clear h
  go_enter Tryz.func12, Tryz.ntmps12
  go_wp2_with fail
  obtain ⟨W, hW⟩ : ∃ W, w.alloc (.cells #[.slice (some ⟨bv, 0, none⟩) zs.length cv, .slice (some ⟨ba, 0, none⟩) n ca, .slice none 0 0, .slice none 0 0] 27) = W := ⟨_, rfl⟩
  have hR : Res W w.heap.size [.slice (some ⟨bv, 0, none⟩) zs.length cv, .slice (some ⟨ba, 0, none⟩) n ca, .slice none 0 0, .slice none 0 0] := by rw [← hW]; exact Res.made w [.slice (some ⟨bv, 0, none⟩) zs.length cv, .slice (some ⟨ba, 0, none⟩) n ca, .slice none 0 0, .slice none 0 0] _
  have hB : Below w.heap.size w W := by rw [← hW]; exact (Below.refl _ _).alloc (Nat.le_refl _) _
  rw [hW]
  clear hW
  have HR := Lib.hid hR
  have HB := Lib.hid hB
  have HW := Lib.hid (H.out.mono hB)
  clear hR hB
  refine (check_ok _ bv cv ba ca zs n A HW.out).mono ?_
  rintro e w1 ⟨v, rfl, hb1, rfl⟩
  have HB1 := Lib.hid (HB.out.trans (hb1.mono HB.out.size))
  have HR1 := Lib.hid (HR.out.mono hb1)
  have HP1 := Lib.hid (HW.out.mono hb1)
  clear hb1
  have d0 := HR1.out.2.1 0 _ rfl
  go_wp2_with fail
  refine (sorts_any bv 0 cv zs HP1.out.fewV _ HP1.out.vlt HP1.out.vars).mono ?_
  rintro e w2 ⟨v, rfl, hb1, rfl, _⟩
  have HB2 := Lib.hid (HB1.out.trans (hb1.mono HB1.out.size))
  have HR2 := Lib.hid (HR1.out.mono hb1)
  have HP2 := Lib.hid (HP1.out.mono hb1)
  clear hb1 d0
  have d1 := fun o1 o2 o3 o4 => ((((HR2.out.alloc o1).alloc o2).alloc o3).alloc o4).2.1 1 _ rfl
  go_wp2_with fail
  clear d1 hmm
  obtain ⟨X, hX⟩ : ∃ X, (((w2.alloc (.map #[] 0)).alloc (.map #[] 0)).alloc (.map #[] 0)).alloc (.cells #[.map (some w1.heap.size), .slice none 0 0, .map (some w2.heap.size), .map (some (w2.heap.size + 1)), .map (some (w2.heap.size + 1 + 1)), .slice none 0 0, .int .i64 0] 103) = X := ⟨_, rfl⟩
  have hBX : Below w2.heap.size w2 X := by rw [← hX]; exact ((((Below.refl _ _).alloc (Nat.le_refl _) _).alloc (by simp) _).alloc (by simp; omega) _).alloc (by simp; omega) _
  have hm1 : MapV X Tryz.prog 9 w2.heap.size 0 (fun _ => none) := by rw [← hX]; exact (((MapV.made w2 Tryz.prog 9).alloc _).alloc _).alloc _
  have hm2 : MapV X Tryz.prog 3 (w2.heap.size + 1) 0 (fun _ => none) := by
    have := ((MapV.made (w2.alloc (.map #[] 0)) Tryz.prog 3).alloc (.map #[] 0)).alloc (.cells #[.map (some w1.heap.size), .slice none 0 0, .map (some w2.heap.size), .map (some (w2.heap.size + 1)), .map (some (w2.heap.size + 1 + 1)), .slice none 0 0, .int .i64 0] 103)
    rw [hX, World.size_alloc] at this
    exact this
  have hm3 : MapV X Tryz.prog 3 (w2.heap.size + 1 + 1) 0 (fun _ => none) := by
    have := (MapV.made ((w2.alloc (.map #[] 0)).alloc (.map #[] 0)) Tryz.prog 3).alloc (.cells #[.map (some w1.heap.size), .slice none 0 0, .map (some w2.heap.size), .map (some (w2.heap.size + 1)), .map (some (w2.heap.size + 1 + 1)), .slice none 0 0, .int .i64 0] 103)
    rw [hX, World.size_alloc, World.size_alloc] at this
    exact this
  have hh : X.heap[w2.heap.size + 1 + 1 + 1]? = some (.cells #[.map (some w1.heap.size), .slice none 0 0, .map (some w2.heap.size), .map (some (w2.heap.size + 1)), .map (some (w2.heap.size + 1 + 1)), .slice none 0 0, .int .i64 0] 103 (0, 0)) := by
    have := heap_alloc_new (((w2.alloc (.map #[] 0)).alloc (.map #[] 0)).alloc (.map #[] 0)) (.cells #[.map (some w1.heap.size), .slice none 0 0, .map (some w2.heap.size), .map (some (w2.heap.size + 1)), .map (some (w2.heap.size + 1 + 1)), .slice none 0 0, .int .i64 0] 103)
    rw [hX, World.size_alloc, World.size_alloc, World.size_alloc] at this
    exact this
  have hTB : TB X (w2.heap.size + 1 + 1 + 1) (w2.heap.size + 1 + 1) w2.heap.size (w2.heap.size + 1) (.map (some w1.heap.size)) (.slice none 0 0) (fun _ => 0) (fun _ => 0) 0 A := TB.zero hh hm1 hm2 hm3 (by omega) (by omega) (by omega)
  rw [hX]
  have HX := Lib.hid (HB2.out.trans (hBX.mono HB2.out.size))
  have HPX := Lib.hid (HP2.out.mono hBX)
  have HTB := Lib.hid hTB
  have hw2 := HB2.out.size
  obtain ⟨bt, hbt⟩ : ∃ bt, w2.heap.size + 1 + 1 + 1 = bt := ⟨_, rfl⟩
  have HBT := Lib.hid (show w.heap.size ≤ bt from by omega)
  have HMT := Lib.hid hw2
  have HMO := Lib.hid (show w.heap.size ≤ w2.heap.size + 1 from by omega)
  rw [hbt] at HTB ⊢
  clear hX hBX hm1 hm2 hm3 hh hTB hbt hw2
  go_loopw [24] (fun v wr => ∃ k : Nat, k ≤ n ∧ v = .int .i64 (k : Int) ∧ Below w.heap.size w wr ∧ Below X.heap.size X X ∧ ∃ av vb vc, TB wr bt (w2.heap.size + 1 + 1) w2.heap.size (w2.heap.size + 1) (.map (some w1.heap.size)) av vb vc k A ∧ ∀ b, av.ownBlock = some b → w.heap.size ≤ b) (fun v _ => (n - intOf v).toNat)
  case atStart => exact ⟨0, Nat.zero_le _, rfl, HX.out, Below.refl _ _, _, _, _, HTB.out, fun b hb => by simp [Value.ownBlock] at hb⟩
  case round =>
    obtain ⟨k, hk, rfl, hB, _, av, vb, vc, hT, hav⟩ := hrel
    have HBr := Lib.hid hB
    have HT := Lib.hid hT
    have HAV := Lib.hid hav
    clear hB hT hav
    by_cases hkn : k = n
    · subst hkn
      go_wp2_with fail
      go_ret2
      obtain ⟨T, rfl, hT, hF⟩ := HT.out.tr h0 hn H.out.small
      exact ⟨_, rfl, HBr.out, T, rfl, hT, fun j hj => by
        rcases hF j hj with e | e
        · rw [e]; exact HBT.out
        · exact HAV.out j e⟩
    · have hk1 : k < n := by omega
      obtain ⟨c0, c1, c2, c3, c4, c5, c6⟩ := (H.out.mono HBr.out).atoms k hk1
      obtain ⟨x, hx⟩ : ∃ x, A k = x := ⟨_, rfl⟩
      have hx100 : x < 100 := by rw [← hx]; exact H.out.small k hk1
      have HD : Hid (∀ j, j < k → A j ≠ x) := by
        show ∀ j, j < k → A j ≠ x
        rw [← hx]; exact fun j hj => H.out.diff j k hj hk1
      rw [hx] at c5
      have HXX := Lib.hid hx
      simp only [Nat.zero_add] at c0 c1 c2 c3 c4 c5 c6
      clear hx
      go_wp2_with fail
      obtain ⟨Y, hY⟩ : ∃ Y, wr.alloc (.cells #[.int .i64 6, .slice none 0 0, .bool false, .slice none 0 0, .slice none 0 0, .int .i64 (x : Nat), .int .i64 0] 51) = Y := ⟨_, rfl⟩
      have hBY : Below wr.heap.size wr Y := by rw [← hY]; exact (Below.refl _ _).alloc (Nat.le_refl _) _
      rw [hY]
      clear hY c0 c1 c2 c3 c4 c5 c6
      have HBY := Lib.hid hBY
      clear hBY
      refine (add_ok _ bt _ _ _ _ av vb vc k A x (HT.out.mono HBY.out) (by omega) HXX.out hx100 HD.out).mono ?_
      rintro e w5 ⟨rfl, hU, av', vb', vc', hT', hav'⟩
      have HB5 : Hid (Below w.heap.size w w5) := (HBr.out.trans (HBY.out.mono HBr.out.size)).trans (hU.below (fun j hj hF => by
        have h1 := HBT.out
        have h2 := HMT.out
        have h3 := HMO.out
        rcases hF with e | e | e | e
        · omega
        · have := HAV.out j e; omega
        · omega
        · omega) (Nat.le_trans HBr.out.size HBY.out.size))
      have HT5 := Lib.hid hT'
      have HAV5 : Hid (∀ b, av'.ownBlock = some b → w.heap.size ≤ b) := fun b hb => by
        rcases hav' b hb with h | h
        · exact HAV.out b h
        · exact Nat.le_trans (Nat.le_trans HBr.out.size HBY.out.size) h
      clear hU hT' hav'
      go_wp2_with fail
      go_roundw
      case rel => exact ⟨k + 1, by omega, by go_num, HB5.out, Below.refl _ _, av', vb', vc', HT5.out, HAV5.out⟩
      case measure => simp [intOf]; omega
end Go.Proofs.YtodeddappmfphaaGreatDoor
