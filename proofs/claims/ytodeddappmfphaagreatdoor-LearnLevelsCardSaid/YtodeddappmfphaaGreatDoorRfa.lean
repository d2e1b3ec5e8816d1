/- theodoliteref1's shift, sub, divmod, gcd of 1 and 0. -/
import Derived.Test.YtodeddappmfphaaGreatDoorRef
namespace Go.Thd
open Go.RowKit
/-- A slice of one limb, 1. -/
def L1 (w : World) (a : Option Addr) (c : Nat) : Prop := 1 ≤ c ∧ ∃ b o, a = some ⟨b, o, none⟩ ∧ b < w.heap.size ∧ w.cell? ⟨b, o, none⟩ = some (.int .u64 1)
theorem L1.mono {w w' : World} {a : Option Addr} {c : Nat} (h : L1 w a c) (hb : Below w.heap.size w w') : L1 w' a c := by
  obtain ⟨h1, b, o, rfl, h2, h3⟩ := h
  exact ⟨h1, b, o, rfl, Nat.lt_of_lt_of_le h2 hb.size, (hb.cell (p := ⟨b, o, none⟩) h2).trans h3⟩
theorem nl_one : nl 1 = 1 := nl_small (by omega) B64_gt
theorem L1.of {w : World} {a : Option Addr} {c : Nat} (h : Num w a c 1) : L1 w a c := by
  have h1 := h.1
  rw [nl_one] at h1
  obtain ⟨b, o, rfl, h2, h3⟩ := h.2.resolve_left (by omega)
  have h4 := h3 0 (by rw [nl_one]; omega)
  rw [dig_zero B64_gt] at h4
  exact ⟨h1, b, o, rfl, h2, h4⟩
theorem L1.num {w : World} {a : Option Addr} {c : Nat} (h : L1 w a c) : Num w a c 1 := by
  obtain ⟨h1, b, o, rfl, h2, h3⟩ := h
  refine ⟨by rw [nl_one]; exact h1, .inr ⟨b, o, rfl, h2, fun i hi => ?_⟩⟩
  rw [nl_one] at hi
  obtain rfl : i = 0 := by omega
  rw [dig_zero B64_gt]
  exact h3
end Go.Thd
namespace Go.Proofs.YtodeddappmfphaaGreatDoor
open Go.RowKit Go.Thd

/-- An own row of limbs. -/
def OwnL (w : World) (v : Value) (l : List Nat) : Prop := w.ownsRow 0 107 1 v l.length (l.map fun x => Value.int .u64 (x : Nat))
theorem append_limb {W : World} {v : Value} {l : List Nat} (h : OwnL W v l) (x : Nat) (hn : l.length < 100000) :
    ∃ v' w', (Builtin.append_ #[42, 42] 42 #[v, .slice (some ⟨W.heap.size, 0, none⟩) 1 1]).run Tryz.prog (W.alloc (.cells #[.int .u64 x] 107)) = .ok v' w' ∧ OwnL w' v' (l ++ [x]) ∧
      Upd (fun b => v.ownBlock = some b) W w' ∧ ∀ b, v'.ownBlock = some b → v.ownBlock = some b ∨ W.heap.size ≤ b := by
  have hB1 : Below W.heap.size W (W.alloc (.cells #[.int .u64 x] 107)) := (Below.refl _ _).alloc (Nat.le_refl _) _
  obtain ⟨i0, hi1, hi2, hi3, hi4⟩ := info_parts info64
  obtain ⟨v', w', hrun, hown, hgr, _, hblk⟩ := run_append_own_at (P := Tryz.prog) (W.alloc (.cells #[.int .u64 x] 107)) 0 42 42 107 i0 _ 1 8 Tryz.underlying42 hi1 hi2 hi3 hi4 rfl (by decide)
    v l.length _ (ownsRow_upd h (F := fun _ => False) (.of hB1) (fun _ _ h => h)) ⟨W.heap.size, 0, none⟩ 1 1 [.int .u64 x] rfl (fun j u hj => news_cells W [.int .u64 x] _ j u hj) (by intro u hu; simp at hu; subst hu; rfl) (by unfold maxLen; omega) (by omega) (by simp)
  refine ⟨v', w', hrun, ?_, Upd.trans (.of hB1) (.grown hgr (fun k hk => hk)), ?_⟩
  · have : OwnL w' v' (l ++ [x]) ↔ w'.ownsRow 0 107 1 v' (l.length + 1) ((l.map fun x => Value.int .u64 (x : Nat)) ++ [.int .u64 x]) := by
      unfold OwnL; simp
    exact this.2 hown
  · intro b hb
    rcases hblk with h | h
    · exact .inl (h ▸ hb)
    · rw [h] at hb; injection hb with hb; simp at hb; exact .inr (by omega)
theorem OwnL.made (w : World) : OwnL (w.alloc (.cells #[] 107)) (.slice (some ⟨w.heap.size, 0, none⟩) 0 0) [] :=
  ⟨rfl, .inr ⟨w.heap.size, 0, #[], rfl, Nat.zero_le _, heap_alloc_new w (.cells #[] 107), Nat.le_refl _, by simp [maxLen], rfl, rfl⟩⟩
theorem OwnL.nil (w : World) : OwnL w (.slice none 0 0) [] := ⟨rfl, .inl ⟨rfl, rfl⟩⟩
theorem OwnL.num {w : World} {v : Value} {l : List Nat} (h : OwnL w v l) (hl : l ≠ []) : ∃ b c, v = .slice (some ⟨b, 0, none⟩) l.length c ∧ v.ownBlock = some b ∧ l.length ≤ c ∧ b < w.heap.size ∧ ∀ i, i < l.length → w.cell? ⟨b, i, none⟩ = some (.int .u64 (l.getD i 0 : Nat)) := by
  rcases h.2 with ⟨_, h0⟩ | ⟨g, cap, cur, rfl, hb, hg, hn, _, _, ht⟩
  · exact absurd (List.eq_nil_of_length_eq_zero h0) hl
  · refine ⟨g, cap, rfl, rfl, hn, (Array.getElem?_eq_some_iff.1 hg).1, fun i hi => ?_⟩
    have h1 : (cur.toList.take (l.length * 1))[i]? = some (.int .u64 (l.getD i 0 : Nat)) := by rw [ht]; simp [hi, List.getD_eq_getElem?_getD]
    rw [List.getElem?_take, if_pos (by omega)] at h1
    simp only [World.cell?, hg]
    simpa using h1

set_option maxRecDepth 100000 in
theorem rshift_one (w : World) (a : Option Addr) (c : Nat) (h : L1 w a c) : Calls Tryz.prog 204 #[.slice a 1 c, .int .i64 0] w (Ret w fun v w' => ∃ a c, v = .slice a 1 c ∧ L1 w' a c) := by
  have hmk := fun w : World => make64 0 0 rfl w (by omega)
  obtain ⟨h1, b, o, rfl, h2, h3⟩ := h
  go_enter Tryz.func204, Tryz.ntmps204
  go_wp2_with fail
  clear hmk
  obtain ⟨W, hW⟩ : ∃ W, w.alloc (.cells (madeCells #[.int .u64 0] 0) 107) = W := ⟨_, rfl⟩
  have hO : OwnL W (.slice (some ⟨w.heap.size, 0, none⟩) 0 0) [] := by rw [← hW, show madeCells #[Value.int .u64 0] 0 = #[] from by simp [madeCells]]; exact OwnL.made w
  have hB : Below w.heap.size w W := by rw [← hW]; exact (Below.refl _ _).alloc (Nat.le_refl _) _
  have hc : W.cell? ⟨b, o, none⟩ = some (.int .u64 1) := (hB.cell (p := ⟨b, o, none⟩) h2).trans h3
  obtain ⟨v', w', hrun, hO', hU, hf⟩ := append_limb hO 1 (by simp)
  have hB' : Below w.heap.size w w' := hB.trans (hU.below (fun k hk hF => by injection hF with hF; simp at hF; omega) hB.size)
  have hf' : ∀ b, v'.ownBlock = some b → w.heap.size ≤ b := fun b hb => by
    rcases hf b hb with h | h
    · injection h with h; simp at h; omega
    · exact Nat.le_trans hB.size h
  have HR := Lib.hid hrun
  have HO := Lib.hid hO'
  have HB := Lib.hid hB'
  have HF := Lib.hid hf'
  rw [hW]
  clear hO hB h3 hW hrun hO' hU hf hB' hf'
  refine wp_loop_rounds 2 ?_
  rw [rounds_succ]
  go_wp2_with (at_builtin; go_must (refine wpList_append_by rfl _ _ 42 rfl _ _ _ _ rfl rfl HR.out ?_))
  obtain ⟨v2, w2, hrun, hO', hU, hf⟩ := append_limb HO.out 0 (by simp)
  have HR2 := Lib.hid hrun
  have hB2 : Below w.heap.size w w2 := HB.out.trans (hU.below (fun k hk hF => by have := HF.out k hF; omega) HB.out.size)
  have HB2 := Lib.hid hB2
  obtain ⟨g, cg, rfl, _, hcg, hlt, hcells⟩ := OwnL.num hO' (by simp)
  have HCE := Lib.hid hcells
  clear hrun hO' hU hf hB2 hcells
  rw [rounds_succ]
  go_wp2_with (at_builtin; go_must (refine wpList_append_by rfl _ _ 42 rfl _ _ _ _ rfl rfl HR2.out ?_))
  have hT := rtrim_num (fun i => if i = 0 then 1 else 0) w2 g 0 2 cg (by omega) hcg (fun i hi => by
    have := HCE.out i hi
    rw [Nat.zero_add, this]
    match i, hi with
    | 0, _ => rfl
    | 1, _ => rfl) (fun i _ => by have := B64_gt; show (if i = 0 then 1 else 0) < B64; split <;> omega) 1 (by simp [val])
  refine hT.mono ?_
  rintro e w3 ⟨v, rfl, hb3, a3, c3, rfl, hN, _⟩
  rw [nl_one]
  have HB3 := Lib.hid (HB2.out.trans (hb3.mono HB2.out.size))
  have HL := Lib.hid (L1.of hN)
  clear hb3 hN hT
  go_wp2_with fail
  go_ret
  exact ⟨_, rfl, HB3.out, a3, c3, rfl, HL.out⟩

set_option maxRecDepth 100000 in
theorem rsub_one (w : World) (a a' : Option Addr) (c c' : Nat) (h : L1 w a c) (h' : L1 w a' c') : Calls Tryz.prog 205 #[.slice a 1 c, .slice a' 1 c'] w (Ret w fun v w' => ∃ a c, v = .slice a 0 c) := by
  obtain ⟨h1, b, o, rfl, h2, h3⟩ := h
  obtain ⟨h1', b', o', rfl, h2', h3'⟩ := h'
  have ha := sub64 1 1 0 1 1 0 0 0 rfl rfl rfl (by omega) rfl (by rfl) w
  obtain ⟨v', w', hrun, hO', hU, hf⟩ := append_limb (OwnL.nil w) 0 (by simp)
  have hB' : Below w.heap.size w w' := hU.below (fun _ _ hF => by simp [Value.ownBlock] at hF) (Nat.le_refl _)
  obtain ⟨g, cg, rfl, _, hcg, hlt, hcells⟩ := OwnL.num hO' (by simp)
  have HR := Lib.hid hrun
  have HCE := Lib.hid hcells
  have HB := Lib.hid hB'
  clear hrun hO' hU hf hB' hcells
  go_enter Tryz.func205, Tryz.ntmps205
  go_wp2_with fail
  refine wp_loop_rounds 2 ?_
  rw [rounds_succ]
  go_wp2_with (at_builtin; go_must (refine wpList_append_by rfl _ _ 42 rfl _ _ _ _ rfl rfl HR.out ?_))
  rw [rounds_succ]
  go_wp2_with fail
  have hT := rtrim_num (fun i => 0) w' g 0 1 cg (by omega) hcg (fun i hi => by
    have := HCE.out i hi
    rw [Nat.zero_add, this]
    match i, hi with
    | 0, _ => rfl) (fun i _ => B64_pos) 0 (by simp [val])
  refine hT.mono ?_
  rintro e w3 ⟨v, rfl, hb3, a3, c3, rfl, hN, _⟩
  rw [nl_zero]
  have HB3 := Lib.hid (HB.out.trans (hb3.mono HB.out.size))
  clear hb3 hN hT
  go_wp2_with fail
  go_ret
  exact ⟨_, rfl, HB3.out, a3, c3, rfl⟩

theorem rbits_one (w : World) (a : Option Addr) (c : Nat) (h : L1 w a c) : Calls Tryz.prog 203 #[.slice a 1 c] w (RetS w fun v => v = .int .i64 1) := by
  obtain ⟨h1, b, o, rfl, h2, h3⟩ := h
  go_enter Tryz.func203, Tryz.ntmps203
  go_wp2_with fail
  have hL : Calls Tryz.prog 216 #[.int .u64 1] w (RetS w fun v => v = .int .i64 1) := (Tryz.bits_Len64 1 w (by omega) (by omega)).mono fun e w' ⟨he, hw⟩ => ⟨_, he, hw.symm, by show Value.int .i64 ((Lib.bitLen 1 : Nat) : Int) = _; rw [show Lib.bitLen 1 = 1 from by decide]; rfl⟩
  have HL := Lib.hid hL
  clear hL
  refine HL.out.mono ?_
  rintro e w' ⟨v, rfl, rfl, rfl⟩
  go_wp2_with fail
  go_ret
  exact ⟨_, rfl, rfl, rfl⟩

theorem cmp_q (w : World) (a a' : Option Addr) (n m c c' x y : Nat) (hn : n = nl x) (hm : m = nl y) (hx : Num w a c x) (hy : Num w a' c' y) (h : nl x ≤ 65536) (r : Int) (hr : cmpI x y = r) :
    Calls Tryz.prog 146 #[.slice a n c, .slice a' m c'] w (Ret w fun v _ => v = .int .i64 r) := by
  subst hn; subst hm; subst hr
  exact (rcmp_any w a a' c c' x y hx hy h).mono fun e w' ⟨he, q, hw⟩ => ⟨_, he, by rw [hw]; exact (Below.refl _ _).drewN q, rfl⟩

set_option maxRecDepth 100000 in
/-- 1 by 1. -/
theorem rdiv_one (w : World) (a a' : Option Addr) (c c' : Nat) (h : L1 w a c) (h' : L1 w a' c') : Calls Tryz.prog 166 #[.slice a 1 c, .slice a' 1 c'] w
    (Ret w fun v w' => ∃ a c a2 c2, v = .tuple #[.slice a 1 c, .slice a2 0 c2] ∧ L1 w' a c) := by
  have hmk := fun w : World => make64 1 1 rfl w (by omega)
  have H := Lib.hid h
  have H' := Lib.hid h'
  clear h h'
  go_enter Tryz.func166, Tryz.ntmps166
  go_wp2_with fail
  refine (cmp_q _ _ _ _ _ _ _ 1 1 nl_one.symm nl_one.symm H.out.num H'.out.num (by rw [nl_one]; omega) 0 (by decide)).mono ?_
  rintro e w1 ⟨v, rfl, hb, rfl⟩
  have HB := Lib.hid hb
  clear hb
  go_wp2_with fail
  obtain ⟨W, hW⟩ : ∃ W, w1.alloc (.cells (madeCells #[.int .u64 0] 1) 107) = W := ⟨_, rfl⟩
  have hq : W.cell? ⟨w1.heap.size, 0, none⟩ = some (.int .u64 0) := by rw [← hW]; exact (Own.made w1 (.int .u64 0) 1 _).2.1 0 (by omega)
  have hqf : ∀ o, W.frozen? ⟨w1.heap.size, o, none⟩ = false := by rw [← hW]; exact (Own.made w1 (.int .u64 0) 1 _).2.2
  have hBW : Below w.heap.size w W := by rw [← hW]; exact HB.out.alloc HB.out.size _
  have hz : w1.heap.size < W.heap.size := by rw [← hW]; simp
  have HBW := Lib.hid hBW
  have HZ0 := Lib.hid (show w.heap.size ≤ w1.heap.size from HB.out.size)
  rw [hW]
  clear hmk hW hBW
  refine (rbits_one _ _ _ (H.out.mono HBW.out)).mono ?_
  rintro e w2 ⟨v, rfl, rfl, rfl⟩
  go_wp2_with fail
  refine (rbits_one _ _ _ (H'.out.mono HBW.out)).mono ?_
  rintro e w2 ⟨v, rfl, rfl, rfl⟩
  go_wp2_with fail
  refine wp_loop_rounds 2 ?_
  rw [rounds_succ]
  go_wp2_with fail
  refine (rshift_one _ _ _ (H'.out.mono HBW.out)).mono ?_
  rintro e w2 ⟨v, rfl, hb2, a2, c2, rfl, hL2⟩
  have HB2 := Lib.hid (HBW.out.trans (hb2.mono HBW.out.size))
  have HL2 := Lib.hid hL2
  have hq2 : w2.cell? ⟨w1.heap.size, 0, none⟩ = some (.int .u64 0) := (hb2.cell (p := ⟨w1.heap.size, 0, none⟩) hz).trans hq
  have hqf2 : ∀ o, w2.frozen? ⟨w1.heap.size, o, none⟩ = false := fun o => (hb2.frozen (p := ⟨w1.heap.size, o, none⟩) hz).trans (hqf o)
  have hz2 : w1.heap.size < w2.heap.size := Nat.lt_of_lt_of_le hz hb2.size
  clear hb2 hL2 hq hqf hz
  go_wp2_with fail
  refine (cmp_q _ _ _ _ _ _ _ 1 1 nl_one.symm nl_one.symm (H.out.mono HB2.out).num HL2.out.num (by rw [nl_one]; omega) 0 (by decide)).mono ?_
  rintro e w3 ⟨v, rfl, hb3, rfl⟩
  have HB3 := Lib.hid (HB2.out.trans (hb3.mono HB2.out.size))
  have HL3 := Lib.hid (HL2.out.mono hb3)
  have hq3 : w3.cell? ⟨w1.heap.size, 0, none⟩ = some (.int .u64 0) := (hb3.cell (p := ⟨w1.heap.size, 0, none⟩) hz2).trans hq2
  have hqf3 : ∀ o, w3.frozen? ⟨w1.heap.size, o, none⟩ = false := fun o => (hb3.frozen (p := ⟨w1.heap.size, o, none⟩) hz2).trans (hqf2 o)
  have hz3 : w1.heap.size < w3.heap.size := Nat.lt_of_lt_of_le hz2 hb3.size
  clear hb3 hq2 hqf2 hz2
  go_wp2_with fail
  refine (rsub_one _ _ _ _ _ (H.out.mono HB3.out) HL3.out).mono ?_
  rintro e w4 ⟨v, rfl, hb4, a4, c4, rfl⟩
  have HB4 := Lib.hid (HB3.out.trans (hb4.mono HB3.out.size))
  have hq4 : w4.cell? ⟨w1.heap.size, 0, none⟩ = some (.int .u64 0) := (hb4.cell (p := ⟨w1.heap.size, 0, none⟩) hz3).trans hq3
  have hqf4 : ∀ o, w4.frozen? ⟨w1.heap.size, o, none⟩ = false := fun o => (hb4.frozen (p := ⟨w1.heap.size, o, none⟩) hz3).trans (hqf3 o)
  have hz4 : w1.heap.size < w4.heap.size := Nat.lt_of_lt_of_le hz3 hb4.size
  clear hb4 hq3 hqf3 hz3
  go_wp2_with fail
  rw [rounds_succ]
  go_wp2_with fail
  have hbo : bits BinOp.or IntKind.u64 0 1 = 1 := by decide
  rw [hbo]
  have hq5 : (w4.setCell ⟨w1.heap.size, 0, none⟩ (.int .u64 1)).cell? ⟨w1.heap.size, 0, none⟩ = some (.int .u64 1) := World.cell?_setCell_same _ _ _ hq4
  have HB5 : Hid (Below w.heap.size w (w4.setCell ⟨w1.heap.size, 0, none⟩ (.int .u64 1))) := HB4.out.setCell HZ0.out _
  refine (rtrim_num (fun _ => 1) _ w1.heap.size 0 1 1 (by omega) (by omega) (fun i hi => by
    obtain rfl : i = 0 := by omega
    exact hq5) (fun i _ => B64_gt) 1 (by simp [val])).mono ?_
  rintro e w6 ⟨v, rfl, hb6, a6, c6, rfl, hN, _⟩
  rw [nl_one]
  have HB6 := Lib.hid (HB5.out.trans (hb6.mono HB5.out.size))
  have HL := Lib.hid (L1.of hN)
  clear hb6 hN hq5 hbo hq4 hz4
  go_wp2_with fail
  go_ret2
  exact ⟨_, rfl, HB6.out, a6, c6, a4, c4, rfl, HL.out⟩

/-- 0 by 1. -/
theorem rdiv_zero (w : World) (a a' : Option Addr) (c c' : Nat) (h' : L1 w a' c') : Calls Tryz.prog 166 #[.slice a 0 c, .slice a' 1 c'] w
    (Ret w fun v _ => v = .tuple #[.slice none 0 0, .slice a 0 c]) := by
  have H' := Lib.hid h'
  clear h'
  go_enter Tryz.func166, Tryz.ntmps166
  go_wp2_with fail
  refine (cmp_q _ _ _ _ _ _ _ 0 1 nl_zero.symm nl_one.symm (Num.zero _ _ _) H'.out.num (by rw [nl_zero]; omega) (-1) (by decide)).mono ?_
  rintro e w1 ⟨v, rfl, hb, rfl⟩
  have HB := Lib.hid hb
  clear hb
  go_wp2_with fail
  go_ret2
  exact ⟨_, rfl, HB.out, rfl⟩

theorem rgcd_one (w : World) (a a' : Option Addr) (c c' : Nat) (h : L1 w a c) (h' : L1 w a' c') : Calls Tryz.prog 147 #[.slice a 1 c, .slice a' 1 c'] w
    (Ret w fun v w' => ∃ a c, v = .slice a 1 c ∧ L1 w' a c) := by
  have H := Lib.hid h
  have H' := Lib.hid h'
  clear h h'
  go_enter Tryz.func147, Tryz.ntmps147
  go_wp2_with fail
  refine wp_loop_rounds 2 ?_
  rw [rounds_succ]
  go_wp2_with fail
  refine (rdiv_one _ _ _ _ _ H.out H'.out).mono ?_
  rintro e w1 ⟨v, rfl, hb, a1, c1, a2, c2, rfl, _⟩
  have HB := Lib.hid hb
  clear hb
  go_wp2_with fail
  rw [rounds_succ]
  go_wp2_with fail
  go_ret
  exact ⟨_, rfl, HB.out, a', c', rfl, H'.out.mono HB.out⟩

theorem rgcd_zero (w : World) (a a' : Option Addr) (c c' : Nat) (h' : L1 w a' c') : Calls Tryz.prog 147 #[.slice a 0 c, .slice a' 1 c'] w
    (Ret w fun v w' => ∃ a c, v = .slice a 1 c ∧ L1 w' a c) := by
  have H' := Lib.hid h'
  clear h'
  go_enter Tryz.func147, Tryz.ntmps147
  go_wp2_with fail
  refine wp_loop_rounds 2 ?_
  rw [rounds_succ]
  go_wp2_with fail
  refine (rdiv_zero _ _ _ _ _ H'.out).mono ?_
  rintro e w1 ⟨v, rfl, hb, rfl⟩
  have HB := Lib.hid hb
  clear hb
  go_wp2_with fail
  rw [rounds_succ]
  go_wp2_with fail
  go_ret
  exact ⟨_, rfl, HB.out, a', c', rfl, H'.out.mono HB.out⟩
end Go.Proofs.YtodeddappmfphaaGreatDoor
