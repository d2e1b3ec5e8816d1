/- The trail's add, of an atom that speaks of a Bool. -/
import Derived.Test.YtodeddappmfphaaGreatDoorChl
import Derived.Test.YtodeddappmfphaaGreatDoorLev
import Derived.IntWalk
namespace Go.Thd
open Go.RowKit
theorem wp_storeV {P : Program} {o : Oper} {a : Act} {w : World} {K : Act → World → Prop} {Q : Exit → Act → World → Prop} (m x v : Operand) (t : TypeId) (hop : o.op = Op.mapUpdate t m x v)
    (k e : TypeId) (Ky : Maps.Keyed P k) (ht : P.underlying t = some (.map k e)) (b n : Nat) (f : Lit → Option Value)
    (hm : a.eval m = .map (some b)) (hown : MapV w P k b n f) (hn : n < maxLen) (key val : Value) (kl : Lit) (hx : a.eval x = key) (hv : a.eval v = val) (hkey : keyOf P k key = some kl)
    (hK : ∀ w', MapV w' P k b (n + 1) (putK f kl (some val)) → Upd (· = b) w w' → K (a.put o.dst undef) w') : Oper.wp P o a w K Q := by
  obtain ⟨w', hrun, r1, r2⟩ := hown.store Ky ht hn hkey (val := val)
  unfold Oper.wp
  simp [execOp, hop, hm, hx, hv, hrun, Result.andThen]
  exact hK _ r1 r2
theorem MapV.isMap {P : Program} {k : TypeId} {w : World} {b n : Nat} {f : Lit → Option Value} (h : MapV w P k b n f) : ∃ es c, w.heap[b]? = some (.map es c) := by
  obtain ⟨D, ⟨es, clock, hb, _⟩, _⟩ := h
  exact ⟨es, clock, hb⟩
theorem MapV.ne {P : Program} {k : TypeId} {w : World} {b n : Nat} {f : Lit → Option Value} (h : MapV w P k b n f) {b' : Nat} {cs : Array Value} {e : TypeId} {fr : Nat × Nat} (hc : w.heap[b']? = some (.cells cs e fr)) : b' ≠ b := by
  obtain ⟨es, c, hm⟩ := h.isMap
  rintro rfl
  rw [hc] at hm
  cases hm
theorem MapV.neC {P : Program} {k : TypeId} {w : World} {b n : Nat} {f : Lit → Option Value} (h : MapV w P k b n f) {b' o : Nat} {v : Value} (hc : w.cell? ⟨b', o, none⟩ = some v) : b' ≠ b := by
  obtain ⟨es, c, hm⟩ := h.isMap
  rintro rfl
  simp [World.cell?, hm] at hc
theorem MapV.neR {P : Program} {k : TypeId} {w : World} {b n : Nat} {f : Lit → Option Value} (h : MapV w P k b n f) {base : Nat} {e : TypeId} {sz m : Nat} {v : Value} {xs : List Value} (hr : w.ownsRow base e sz v m xs) : v.ownBlock ≠ some b := by
  rcases hr.2 with ⟨rfl, _⟩ | ⟨g, cap, cur, rfl, _, hg, _⟩
  · simp [Value.ownBlock]
  · intro e
    injection e with e
    exact h.ne hg e
end Go.Thd
namespace Go.Proofs.YtodeddappmfphaaGreatDoor
open Go.RowKit Go.Thd

/-- An atom's cells, without an entry. -/
def atK (vb vc : Nat → Nat) (A : Nat → Nat) (i j : Nat) : Value :=
  match j with
  | 0 => .int .i64 6
  | 1 => .slice none 0 0
  | 2 => .bool false
  | 3 => .slice none 0 0
  | 4 => .slice none 0 0
  | 5 => .int .i64 (A i : Nat)
  | 6 => .int .i64 0
  | 7 => .slice (some ⟨vb i, 0, none⟩) 1 (vc i)
  | 8 => .int .i64 0
  | _ => .int .i64 0
def atL (x b c : Nat) : List Value := [.int .i64 6, .slice none 0 0, .bool false, .slice none 0 0, .slice none 0 0, .int .i64 (x : Nat), .int .i64 0, .slice (some ⟨b, 0, none⟩) 1 c, .int .i64 0, .int .i64 0]

/-- A trail that is being made: k atoms are there. -/
structure TB (w : World) (bt mv mat mof : Nat) (ms av : Value) (vb vc : Nat → Nat) (k : Nat) (A : Nat → Nat) : Prop where
  head : w.heap[bt]? = some (.cells #[ms, av, .map (some mat), .map (some mof), .map (some mv), .slice none 0 0, .int .i64 0] 103 (0, 0))
  row : w.ownsRow 0 122 10 av k (rowC k 10 (atK vb vc A))
  at_ : ∃ n f, n ≤ k ∧ MapV w Tryz.prog 9 mat n f
  of_ : ∃ n f, n ≤ k ∧ MapV w Tryz.prog 3 mof n (onI f) ∧ ∀ x : Int, (∀ j, j < k → (A j : Int) ≠ x) → f x = none
  vals : MapV w Tryz.prog 3 mv 0 (fun _ => none)
  vars : ∀ i, i < k → w.cell? ⟨vb i, 0, none⟩ = some (.int .i64 (A i : Nat)) ∧ vb i < w.heap.size ∧ vb i ≠ bt ∧ av.ownBlock ≠ some (vb i)
  n1 : av.ownBlock ≠ some bt
  d1 : mat ≠ mof
  d2 : mat ≠ mv
  d3 : mof ≠ mv
theorem TB.lt {w : World} {bt mv mat mof : Nat} {ms av : Value} {vb vc : Nat → Nat} {k : Nat} {A : Nat → Nat} (h : TB w bt mv mat mof ms av vb vc k A) : bt < w.heap.size := (Array.getElem?_eq_some_iff.1 h.head).1
theorem TB.upd {w w' : World} {bt mv mat mof : Nat} {ms av : Value} {vb vc : Nat → Nat} {k : Nat} {A : Nat → Nat} (h : TB w bt mv mat mof ms av vb vc k A) {F : Nat → Prop} (hu : Upd F w w') (hF : ∀ b, F b → b ≠ bt ∧ av.ownBlock ≠ some b ∧ b ≠ mat ∧ b ≠ mof ∧ b ≠ mv ∧ ∀ i, i < k → b ≠ vb i) : TB w' bt mv mat mof ms av vb vc k A where
  head := (hu.block bt h.lt (fun e => (hF _ e).1 rfl)).trans h.head
  row := ownsRow_upd h.row hu (fun b hb e => (hF _ e).2.1 hb)
  at_ := by obtain ⟨n, f, hn, hf⟩ := h.at_; exact ⟨n, f, hn, hf.upd hu (fun e => (hF _ e).2.2.1 rfl)⟩
  of_ := by obtain ⟨n, f, hn, hf, hg⟩ := h.of_; exact ⟨n, f, hn, hf.upd hu (fun e => (hF _ e).2.2.2.1 rfl), hg⟩
  vals := h.vals.upd hu (fun e => (hF _ e).2.2.2.2.1 rfl)
  vars := fun i hi => by
    obtain ⟨h1, h2, h3, h4⟩ := h.vars i hi
    exact ⟨(hu.cell h2 (fun e => (hF _ e).2.2.2.2.2 i hi rfl) 0).trans h1, Nat.lt_of_lt_of_le h2 hu.size, h3, h4⟩
  n1 := h.n1
  d1 := h.d1
  d2 := h.d2
  d3 := h.d3
theorem TB.mono {w w' : World} {bt mv mat mof : Nat} {ms av : Value} {vb vc : Nat → Nat} {k : Nat} {A : Nat → Nat} (h : TB w bt mv mat mof ms av vb vc k A) (hb : Below w.heap.size w w') : TB w' bt mv mat mof ms av vb vc k A :=
  h.upd (F := fun _ => False) (.of hb) (fun _ h => h.elim)
theorem TB.cells {w : World} {bt mv mat mof : Nat} {ms av : Value} {vb vc : Nat → Nat} {k : Nat} {A : Nat → Nat} (h : TB w bt mv mat mof ms av vb vc k A) :
    w.cell? ⟨bt, 1, none⟩ = some av ∧ w.cell? ⟨bt, 2, none⟩ = some (.map (some mat)) ∧ w.cell? ⟨bt, 3, none⟩ = some (.map (some mof)) := by
  simp [World.cell?, h.head]
theorem TB.frozen {w : World} {bt mv mat mof : Nat} {ms av : Value} {vb vc : Nat → Nat} {k : Nat} {A : Nat → Nat} (h : TB w bt mv mat mof ms av vb vc k A) (o : Nat) : w.frozen? ⟨bt, o, none⟩ = false := by simp [World.frozen?, h.head]
/-- The atoms' slice, of whatever length. -/
theorem TB.slice {w : World} {bt mv mat mof : Nat} {ms av : Value} {vb vc : Nat → Nat} {k : Nat} {A : Nat → Nat} (h : TB w bt mv mat mof ms av vb vc k A) : ∃ a c, av = .slice a k c ∧ k ≤ c := by
  rcases h.row.2 with ⟨rfl, rfl⟩ | ⟨g, cap, cur, rfl, _, _, hn, _⟩
  · exact ⟨none, 0, rfl, Nat.le_refl _⟩
  · exact ⟨_, cap, rfl, hn⟩

theorem infoK : (Tryz.prog.info? 122).map (fun i => (i.zero, i.size, i.bytes)) = some (some (.agg #[.int .i64 0, .slice none 0 0, .bool false, .slice none 0 0, .slice none 0 0, .int .i64 0, .int .i64 0, .slice none 0 0, .int .i64 0, .int .i64 0]), 10, 144) := by kernel_rfl
theorem append_known {W : World} {v : Value} {k : Nat} {xs : List Value} (h : W.ownsRow 0 122 10 v k xs) (x b c : Nat) (hk : k < 1000) :
    ∃ g cap w', (Builtin.append_ #[101, 101] 101 #[v, .slice (some ⟨W.heap.size, 0, none⟩) 1 1]).run Tryz.prog (W.alloc (.cells (atL x b c).toArray 122)) = .ok (.slice (some ⟨g, 0, none⟩) (k + 1) cap) w' ∧
      w'.ownsRow 0 122 10 (.slice (some ⟨g, 0, none⟩) (k + 1) cap) (k + 1) (xs ++ atL x b c) ∧ Upd (fun b => v.ownBlock = some b) W w' ∧ (v.ownBlock = some g ∨ W.heap.size ≤ g) := by
  have hB1 : Below W.heap.size W (W.alloc (.cells (atL x b c).toArray 122)) := (Below.refl _ _).alloc (Nat.le_refl _) _
  obtain ⟨i0, hi1, hi2, hi3, hi4⟩ := info_parts infoK
  obtain ⟨v', w', hrun, hown, hgr, _, hblk⟩ := run_append_own_at (P := Tryz.prog) (W.alloc (.cells (atL x b c).toArray 122)) 0 101 101 122 i0 _ 10 144 Tryz.underlying101 hi1 hi2 hi3 hi4 rfl (by decide)
    v k _ (ownsRow_upd h (F := fun _ => False) (.of hB1) (fun _ _ h => h)) ⟨W.heap.size, 0, none⟩ 1 1 (atL x b c) rfl (fun j u hj => news_cells W (atL x b c) _ j u hj) (by intro u hu; simp [atL] at hu; rcases hu with rfl | rfl | rfl | rfl | rfl | rfl | rfl | rfl <;> rfl) (by unfold maxLen; omega) (by omega) (by simp)
  obtain ⟨g, cap, rfl⟩ : ∃ be ce, v' = .slice (some ⟨be, 0, none⟩) (k + 1) ce := by
    rcases hown.2 with ⟨_, h0⟩ | ⟨g, cap, cur, hv, _⟩
    · omega
    · exact ⟨g, cap, hv⟩
  refine ⟨g, cap, w', hrun, hown, Upd.trans (.of hB1) (.grown hgr (fun k hk => hk)), ?_⟩
  rcases hblk with h | h
  · exact .inl h.symm
  · injection h with h
    simp at h
    exact .inr (by omega)

theorem TB.pushed {w1 wq w2 : World} {bt mv mat mof : Nat} {ms av : Value} {vb vc : Nat → Nat} {k : Nat} {A : Nat → Nat} (h : TB w1 bt mv mat mof ms av vb vc k A) (hq : Below w1.heap.size w1 wq) {b x g cg : Nat} (hb : w1.heap.size ≤ b) (hbl : b < wq.heap.size)
    (hc : wq.cell? ⟨b, 0, none⟩ = some (.int .i64 (x : Nat))) (hU : Upd (fun j => av.ownBlock = some j) wq w2) (hown : w2.ownsRow 0 122 10 (.slice (some ⟨g, 0, none⟩) (k + 1) cg) (k + 1) (rowC k 10 (atK vb vc A) ++ atL x b 1))
    (hg : av.ownBlock = some g ∨ wq.heap.size ≤ g) (hAx : A k = x) :
    TB (w2.setCell ⟨bt, 1, none⟩ (.slice (some ⟨g, 0, none⟩) (k + 1) cg)) bt mv mat mof ms (.slice (some ⟨g, 0, none⟩) (k + 1) cg) (fun i => if i = k then b else vb i) (fun i => if i = k then 1 else vc i) (k + 1) A := by
  have hlt := h.lt
  have hq' := h.mono hq
  have hs : Upd (· = bt) w2 (w2.setCell ⟨bt, 1, none⟩ (.slice (some ⟨g, 0, none⟩) (k + 1) cg)) := Upd.set _ _ _ _ rfl
  have havl : ∀ j, av.ownBlock = some j → j < w1.heap.size := fun j hj => (h.row.lt j hj).2
  have hgb : g ≠ bt := by
    rcases hg with h1 | h1
    · exact fun e => h.n1 (by rw [h1, e])
    · have := hq.size; omega
  have hUU : Upd (fun j => j = bt ∨ av.ownBlock = some j) wq (w2.setCell ⟨bt, 1, none⟩ (.slice (some ⟨g, 0, none⟩) (k + 1) cg)) := (hU.mono (fun _ h => .inr h)).trans (hs.mono (fun _ h => .inl h))
  obtain ⟨nA, fA, hnA, hMA⟩ := hq'.at_
  obtain ⟨nO, fO, hnO, hMO, hfO⟩ := hq'.of_
  refine { head := ?_, row := ?_, at_ := ?_, of_ := ?_, vals := ?_, vars := ?_, n1 := ?_, d1 := h.d1, d2 := h.d2, d3 := h.d3 }
  · have h2 : w2.heap[bt]? = _ := (hU.block bt hq'.lt h.n1).trans hq'.head
    simp [World.setCell, Array.getElem?_modify, h2]
  · have e1 : rowC (k + 1) 10 (atK (fun i => if i = k then b else vb i) (fun i => if i = k then 1 else vc i) A) = rowC k 10 (atK vb vc A) ++ atL x b 1 := by
      rw [rowC_succ _ _ _ (by decide)]
      congr 1
      · refine rowC_congr fun i j hi hj => ?_
        have hne : i ≠ k := by omega
        unfold atK
        simp [hne]
      · show List.map _ [0, 1, 2, 3, 4, 5, 6, 7, 8, 9] = _
        simp [atK, atL, hAx]
    rw [e1]
    exact ownsRow_upd hown hs (fun j hj e => hgb (by injection hj with hj; rw [← e]; exact hj))
  · exact ⟨nA, fA, by omega, hMA.upd hUU (fun e => by
      rcases e with e | e
      · exact hMA.ne hq'.head e.symm
      · exact hMA.neR hq'.row e)⟩
  · exact ⟨nO, fO, by omega, hMO.upd hUU (fun e => by
      rcases e with e | e
      · exact hMO.ne hq'.head e.symm
      · exact hMO.neR hq'.row e), fun y hy => hfO y (fun j hj => hy j (by omega))⟩
  · exact hq'.vals.upd hUU (fun e => by
      rcases e with e | e
      · exact hq'.vals.ne hq'.head e.symm
      · exact hq'.vals.neR hq'.row e)
  · intro i hi
    by_cases hik : i = k
    · subst hik
      simp only [if_true]
      refine ⟨?_, Nat.lt_of_lt_of_le hbl hUU.size, by omega, fun e => ?_⟩
      · rw [hUU.cell hbl (by rintro (e | e); omega; have := havl _ e; omega), hc, hAx]
      · injection e with e
        have e' : g = b := e
        rcases hg with h1 | h1
        · have := havl _ h1; omega
        · omega
    · simp only [if_neg hik]
      obtain ⟨h1, h2, h3, h4⟩ := hq'.vars i (by omega)
      obtain ⟨_, h2', _, _⟩ := h.vars i (by omega)
      refine ⟨?_, Nat.lt_of_lt_of_le h2 hUU.size, h3, fun e => ?_⟩
      · rw [hUU.cell h2 (by rintro (e | e); exact h3 e; exact h4 e)]; exact h1
      · injection e with e
        have e' : g = vb i := e
        rcases hg with h5 | h5
        · exact h4 (by rw [h5, e'])
        · have := hq.size; omega
  · exact fun e => hgb (by injection e)

theorem TB.atStore {w w' : World} {bt mv mat mof : Nat} {ms av : Value} {vb vc : Nat → Nat} {k : Nat} {A : Nat → Nat} (h : TB w bt mv mat mof ms av vb vc k A) (hU : Upd (· = mat) w w') {n : Nat} {f : Lit → Option Value} (hM : MapV w' Tryz.prog 9 mat n f) (hn : n ≤ k) : TB w' bt mv mat mof ms av vb vc k A := by
  obtain ⟨nA, fA, hnA, hMA⟩ := h.at_
  obtain ⟨nO, fO, hnO, hMO, hfO⟩ := h.of_
  have hne := hMA.ne h.head
  refine { head := ?_, row := ?_, at_ := ⟨n, f, hn, hM⟩, of_ := ⟨nO, fO, hnO, hMO.upd hU (fun e => h.d1 e.symm), hfO⟩, vals := h.vals.upd hU (fun e => h.d2 e.symm), vars := ?_, n1 := h.n1, d1 := h.d1, d2 := h.d2, d3 := h.d3 }
  · exact (hU.block bt h.lt hne).trans h.head
  · exact ownsRow_upd h.row hU (fun j hj e => hMA.neR h.row (by rw [hj, e]))
  · intro i hi
    obtain ⟨h1, h2, h3, h4⟩ := h.vars i hi
    exact ⟨(hU.cell h2 (hMA.neC h1) 0).trans h1, Nat.lt_of_lt_of_le h2 hU.size, h3, h4⟩
theorem TB.ofStore {w w' : World} {bt mv mat mof : Nat} {ms av : Value} {vb vc : Nat → Nat} {k : Nat} {A : Nat → Nat} (h : TB w bt mv mat mof ms av vb vc k A) (hU : Upd (· = mof) w w') {n : Nat} {f : Int → Option Value} (hM : MapV w' Tryz.prog 3 mof n (onI f)) (hn : n ≤ k)
    (hf : ∀ x : Int, (∀ j, j < k → (A j : Int) ≠ x) → f x = none) : TB w' bt mv mat mof ms av vb vc k A := by
  obtain ⟨nA, fA, hnA, hMA⟩ := h.at_
  obtain ⟨nO, fO, hnO, hMO, hfO⟩ := h.of_
  have hne := hMO.ne h.head
  refine { head := ?_, row := ?_, at_ := ⟨nA, fA, hnA, hMA.upd hU (fun e => h.d1 e)⟩, of_ := ⟨n, f, hn, hM, hf⟩, vals := h.vals.upd hU (fun e => h.d3 e.symm), vars := ?_, n1 := h.n1, d1 := h.d1, d2 := h.d2, d3 := h.d3 }
  · exact (hU.block bt h.lt hne).trans h.head
  · exact ownsRow_upd h.row hU (fun j hj e => hMO.neR h.row (by rw [hj, e]))
  · intro i hi
    obtain ⟨h1, h2, h3, h4⟩ := h.vars i hi
    exact ⟨(hU.cell h2 (hMO.neC h1) 0).trans h1, Nat.lt_of_lt_of_le h2 hU.size, h3, h4⟩

set_option maxRecDepth 100000 in
set_option maxHeartbeats 2000000 in
theorem add_ok (w : World) (bt mv mat mof : Nat) (ms av : Value) (vb vc : Nat → Nat) (k : Nat) (A : Nat → Nat) (x : Nat) (h : TB w bt mv mat mof ms av vb vc k A) (hk : k < 1000) (hAx : A k = x) (hx : x < 100) (hd : ∀ j, j < k → A j ≠ x) :
    Calls Tryz.prog 43 #[.pointer (some ⟨bt, 0, none⟩), .agg #[.int .i64 6, .slice none 0 0, .bool false, .slice none 0 0, .slice none 0 0, .int .i64 (x : Nat), .int .i64 0]] w
      fun e w' => e = .returned (.int .i64 ((k : Int) + 1)) ∧ Upd (fun b => b = bt ∨ av.ownBlock = some b ∨ b = mat ∨ b = mof) w w' ∧
        ∃ av' vb' vc', TB w' bt mv mat mof ms av' vb' vc' (k + 1) A ∧ ∀ b, av'.ownBlock = some b → av.ownBlock = some b ∨ w.heap.size ≤ b := by
  have H := Lib.hid h
  have HAX := Lib.hid hAx
  have HD := Lib.hid hd
  obtain ⟨aa, ca, hav, hca⟩ := h.slice
  clear h hAx hd
  go_enter Tryz.func43, Tryz.ntmps43
  go_wp2_with fail
  obtain ⟨W, hW⟩ : ∃ W, (w.alloc (.cells #[.int .i64 6, .slice none 0 0, .bool false, .slice none 0 0, .slice none 0 0, .int .i64 x, .int .i64 0] 51)) = W := ⟨_, rfl⟩
  have hc0_0 : W.cell? ⟨w.heap.size, 0, none⟩ = some (.int .i64 6) := by rw [← hW]; simp [go_sem]
  have hc0_1 : W.cell? ⟨w.heap.size, 1, none⟩ = some (.slice none 0 0) := by rw [← hW]; simp [go_sem]
  have hc0_2 : W.cell? ⟨w.heap.size, 2, none⟩ = some (.bool false) := by rw [← hW]; simp [go_sem]
  have hc0_3 : W.cell? ⟨w.heap.size, 3, none⟩ = some (.slice none 0 0) := by rw [← hW]; simp [go_sem]
  have hc0_4 : W.cell? ⟨w.heap.size, 4, none⟩ = some (.slice none 0 0) := by rw [← hW]; simp [go_sem]
  have hc0_5 : W.cell? ⟨w.heap.size, 5, none⟩ = some (.int .i64 x) := by rw [← hW]; simp [go_sem]
  have hc0_6 : W.cell? ⟨w.heap.size, 6, none⟩ = some (.int .i64 0) := by rw [← hW]; simp [go_sem]
  have hf0 : ∀ o, W.frozen? ⟨w.heap.size, o, none⟩ = false := by intro o; rw [← hW]; simp [go_sem]
  have hz0 : w.heap.size < W.heap.size := by rw [← hW]; simp <;> omega
  have hn0 : w.heap.size ≠ W.heap.size := Nat.ne_of_lt hz0
  have hBW : Below w.heap.size w W := by rw [← hW]; exact (Below.refl w.heap.size w).alloc (Nat.le_refl _) (.cells #[.int .i64 6, .slice none 0 0, .bool false, .slice none 0 0, .slice none 0 0, .int .i64 x, .int .i64 0] 51)
  rw [hW]
  clear hW
  have HBW := Lib.hid hBW
  with_reducible refine (copy_zero W).mono ?_
  rintro e w1 ⟨v, rfl, hb, rfl⟩
  have hAc := bcell hb
  have HB := Lib.hid (hBW.trans (hb.mono hBW.size))
  have k1 : w1.cell? ⟨w.heap.size, 1, none⟩ = some (.slice none 0 0) := (hAc.1 _ _ hz0).trans hc0_1
  have k2 : w1.cell? ⟨w.heap.size, 2, none⟩ = some (.bool false) := (hAc.1 _ _ hz0).trans hc0_2
  have k3 : w1.cell? ⟨w.heap.size, 3, none⟩ = some (.slice none 0 0) := (hAc.1 _ _ hz0).trans hc0_3
  have k4 : w1.cell? ⟨w.heap.size, 4, none⟩ = some (.slice none 0 0) := (hAc.1 _ _ hz0).trans hc0_4
  have k0 : w1.cell? ⟨w.heap.size, 0, none⟩ = some (.int .i64 6) := (hAc.1 _ _ hz0).trans hc0_0
  have k5 : w1.cell? ⟨w.heap.size, 5, none⟩ = some (.int .i64 x) := (hAc.1 _ _ hz0).trans hc0_5
  have k6 : w1.cell? ⟨w.heap.size, 6, none⟩ = some (.int .i64 0) := (hAc.1 _ _ hz0).trans hc0_6
  have hT1 := H.out.mono HB.out
  obtain ⟨t1, t2, t3⟩ := hT1.cells
  rw [hav] at t1
  have hbt : bt < w.heap.size := H.out.lt
  have hne : w.heap.size ≠ bt := by omega
  have hne' : bt ≠ w.heap.size := by omega
  go_wp2_with fail
  rw [setCell_same k1, setCell_same k2, setCell_same k3, setCell_same k4]
  have HAV := Lib.hid hav
  have hbt1 : bt < w1.heap.size := hT1.lt
  have hb01 : w.heap.size < w1.heap.size := Nat.lt_of_lt_of_le hz0 hb.size
  have HN1 := Lib.hid hT1.n1
  have HN0 : Hid (¬ av.ownBlock = some w.heap.size) := fun e => by have := (H.out.row.lt _ e).2; omega
  have hfz := hT1.frozen 1
  have HT1 := Lib.hid hT1
  clear hav hT1 hc0_0 hc0_1 hc0_2 hc0_3 hc0_4 hc0_5 hc0_6 hAc hb hf0 hn0 t2 t3 hBW
  refine startD (Upd (fun b => av.ownBlock = some b) w1) (fun j => j == 13) 14 #[false, false, false, false, false, false, false, false, false, false, false, false, false, false] (by kernel_rfl) rfl rfl ((Upd.refl _ _).drew) (fun hS => ?_)
  have hA : Below w1.heap.size w1 w1.drew := (Below.refl _ _).drew
  refine' takeP 0 13 (some 17) #[true, false, false, false, false, false, false, false, false, false, false, false, false, false] (v := _) rfl rfl rfl (by kernel_rfl) (by kernel_rfl) (by kernel_rfl) rfl (fun _ _ _ h => h) rfl hS (fun wz hz => ?y0) ?r0
  case y0 => (go_simp; try with_reducible rfl)
  try simp only [Act.put, List.setIfInBounds_toArray, List.set_cons_zero, List.set_cons_succ]
  refine' takeP 1 12 (some 18) #[true, true, false, false, false, false, false, false, false, false, false, false, false, false] (v := _) rfl rfl rfl (by kernel_rfl) (by kernel_rfl) (by kernel_rfl) rfl (fun _ _ _ h => h) rfl hS (fun wz hz => ?y1) ?r1
  case y1 => (go_simp; try with_reducible rfl)
  try simp only [Act.put, List.setIfInBounds_toArray, List.set_cons_zero, List.set_cons_succ]
  refine' takeP 2 11 (some 19) #[true, true, true, false, false, false, false, false, false, false, false, false, false, false] (v := _) rfl rfl rfl (by kernel_rfl) (by kernel_rfl) (by kernel_rfl) rfl (fun _ _ _ h => h) rfl hS (fun wz hz => ?y2) ?r2
  case y2 => (go_simp; try with_reducible rfl)
  try simp only [Act.put, List.setIfInBounds_toArray, List.set_cons_zero, List.set_cons_succ]
  refine' takeP 3 10 (some 20) #[true, true, true, true, false, false, false, false, false, false, false, false, false, false] (v := _) rfl rfl rfl (by kernel_rfl) (by kernel_rfl) (by kernel_rfl) rfl (fun _ _ _ h => h) rfl hS (fun wz hz => ?y3) ?r3
  case y3 => (go_simp; try with_reducible rfl)
  try simp only [Act.put, List.setIfInBounds_toArray, List.set_cons_zero, List.set_cons_succ]
  refine' takeD 4 9 (some 21) #[true, true, true, true, true, false, false, false, false, false, false, false, false, false] (v := _) rfl rfl rfl (by kernel_rfl) (by kernel_rfl) (by kernel_rfl) (by kernel_rfl) (by kernel_rfl) rfl (fun _ _ _ h => h) rfl hS (fun wz hz => ?y4) ?r4
  case y4 => (have q1 := (hz.cell hbt1 HN1.out 1).trans t1; have r0 := (hz.cell hb01 HN0.out 0).trans k0; have r1 := (hz.cell hb01 HN0.out 1).trans k1; have r2 := (hz.cell hb01 HN0.out 2).trans k2; have r3 := (hz.cell hb01 HN0.out 3).trans k3; have r4 := (hz.cell hb01 HN0.out 4).trans k4; have r5 := (hz.cell hb01 HN0.out 5).trans k5; have r6 := (hz.cell hb01 HN0.out 6).trans k6; go_simp; try with_reducible rfl)
  try simp only [Act.put, List.setIfInBounds_toArray, List.set_cons_zero, List.set_cons_succ]
  refine' takeD 5 8 (some 22) #[true, true, true, true, true, true, false, false, false, false, false, false, false, false] (v := _) rfl rfl rfl (by kernel_rfl) (by kernel_rfl) (by kernel_rfl) (by kernel_rfl) (by kernel_rfl) rfl (fun _ _ _ h => h) rfl hS (fun wz hz => ?y5) ?r5
  case y5 => (have q1 := (hz.cell hbt1 HN1.out 1).trans t1; have r0 := (hz.cell hb01 HN0.out 0).trans k0; have r1 := (hz.cell hb01 HN0.out 1).trans k1; have r2 := (hz.cell hb01 HN0.out 2).trans k2; have r3 := (hz.cell hb01 HN0.out 3).trans k3; have r4 := (hz.cell hb01 HN0.out 4).trans k4; have r5 := (hz.cell hb01 HN0.out 5).trans k5; have r6 := (hz.cell hb01 HN0.out 6).trans k6; go_simp; try with_reducible rfl)
  try simp only [Act.put, List.setIfInBounds_toArray, List.set_cons_zero, List.set_cons_succ]
  refine' takeD 6 7 (some 23) #[true, true, true, true, true, true, true, false, false, false, false, false, false, false] (v := _) rfl rfl rfl (by kernel_rfl) (by kernel_rfl) (by kernel_rfl) (by kernel_rfl) (by kernel_rfl) rfl (fun _ _ _ h => h) rfl hS (fun wz hz => ?y6) ?r6
  case y6 => (have q1 := (hz.cell hbt1 HN1.out 1).trans t1; have r0 := (hz.cell hb01 HN0.out 0).trans k0; have r1 := (hz.cell hb01 HN0.out 1).trans k1; have r2 := (hz.cell hb01 HN0.out 2).trans k2; have r3 := (hz.cell hb01 HN0.out 3).trans k3; have r4 := (hz.cell hb01 HN0.out 4).trans k4; have r5 := (hz.cell hb01 HN0.out 5).trans k5; have r6 := (hz.cell hb01 HN0.out 6).trans k6; go_simp; try with_reducible rfl)
  try simp only [Act.put, List.setIfInBounds_toArray, List.set_cons_zero, List.set_cons_succ]
  refine callD 7 6 (some 24) #[true, true, true, true, true, true, true, true, false, false, false, false, false, false] 97 [.agg #[.int .i64 6, .slice none 0 0, .bool false, .slice none 0 0, .slice none 0 0, .int .i64 (x : Nat), .int .i64 0]] rfl rfl rfl (by kernel_rfl) rfl rfl rfl Tryz.func97 rfl (by kernel_rfl) (vars_holds _ (x : Nat)) ?_
  rintro v w' hb ⟨b, rfl, hbb, hblt, hbc⟩
  have hsz := hS.size
  replace hS := hS.trans (Upd.of hb)
  replace hA := hA.trans (hb.mono hA.size)
  have HBB := Lib.hid (Nat.le_trans hsz hbb)
  have HBC := Lib.hid hbc
  clear hsz hbb hbc
  refine ⟨hS, ?_⟩
  try simp only [Act.put, List.setIfInBounds_toArray, List.set_cons_zero, List.set_cons_succ]
  refine' takeP 8 5 (some 25) #[true, true, true, true, true, true, true, true, true, false, false, false, false, false] (v := _) rfl rfl rfl (by kernel_rfl) (by kernel_rfl) (by kernel_rfl) rfl (fun _ _ _ h => h) rfl hS (fun wz hz => ?y7) ?r7
  case y7 => (go_simp; try with_reducible rfl)
  try simp only [Act.put, List.setIfInBounds_toArray, List.set_cons_zero, List.set_cons_succ]
  refine onlyD 9 4 #[true, true, true, true, true, true, true, true, true, true, false, false, false, false] rfl rfl (by kernel_rfl) rfl (fun K hK => ?_)
  go_simp
  have hS0 := hS
  replace hS := hS.alloc (.cells (atL x b 1).toArray 122)
  refine hK _ _ (fun _ => hS) ?_
  clear hK K
  try simp only [Act.put, List.setIfInBounds_toArray, List.set_cons_zero, List.set_cons_succ]
  refine onlyD 10 3 #[true, true, true, true, true, true, true, true, true, true, true, false, false, false] rfl rfl (by kernel_rfl) rfl (fun K hK => ?_)
  obtain ⟨g, cg, w2, hrun, hown, hU2, hg⟩ := append_known (HT1.out.mono hA).row x b 1 hk
  rw [HAV.out] at hrun
  refine wp_append_by _ _ 101 rfl _ _ _ _ rfl rfl hrun ?_
  replace hS := hS0.trans hU2
  refine hK _ _ (fun _ => hS) ?_
  clear hK K
  try simp only [Act.put, List.setIfInBounds_toArray, List.set_cons_zero, List.set_cons_succ]
  refine' takeP 11 2 (some 28) #[true, true, true, true, true, true, true, true, true, true, true, true, false, false] (v := _) rfl rfl rfl (by kernel_rfl) (by kernel_rfl) (by kernel_rfl) rfl (fun _ _ _ h => h) rfl hS (fun wz hz => ?y8) ?r8
  case y8 => (go_simp; try with_reducible rfl)
  try simp only [Act.put, List.setIfInBounds_toArray, List.set_cons_zero, List.set_cons_succ]
  refine' takeP 12 1 (some 29) #[true, true, true, true, true, true, true, true, true, true, true, true, true, false] (v := _) rfl rfl rfl (by kernel_rfl) (by kernel_rfl) (by kernel_rfl) rfl (fun _ _ _ h => h) rfl hS (fun wz hz => ?y9) ?r9
  case y9 => (go_simp; try with_reducible rfl)
  try simp only [Act.put, List.setIfInBounds_toArray, List.set_cons_zero, List.set_cons_succ]
  refine onlyD 13 0 #[true, true, true, true, true, true, true, true, true, true, true, true, true, true] rfl rfl (by kernel_rfl) rfl (fun K hK => ?_)
  have u1 := (hS.cell hbt1 HN1.out 1).trans t1
  have u2 := (hS.frozen hbt1 HN1.out 1).trans hfz
  go_simp
  refine hK _ _ (fun h => absurd (h 13 rfl) (by decide)) ?_
  clear hK K
  try simp only [Act.put, List.setIfInBounds_toArray, List.set_cons_zero, List.set_cons_succ]
  refine doneD (by kernel_rfl) ?_ _
  have hT4 := HT1.out.pushed hA HBB.out hblt HBC.out hU2 hown hg HAX.out
  have hU4 : Upd (fun j => j = bt ∨ av.ownBlock = some j) w1 (w2.setCell ⟨bt, 1, none⟩ (.slice (some ⟨g, 0, none⟩) (k + 1) cg)) := (hS.mono (fun _ h => .inr h)).trans ((Upd.set (F := (· = bt)) w2 bt 1 _ rfl).mono (fun _ h => .inl h))
  obtain ⟨nA, fA, hnA, hMA⟩ := (HT1.out.mono hA).at_
  obtain ⟨nO, fO, hnO, hMO, hfO⟩ := (HT1.out.mono hA).of_
  have hUq : Upd (fun j => j = bt ∨ av.ownBlock = some j) w' (w2.setCell ⟨bt, 1, none⟩ (.slice (some ⟨g, 0, none⟩) (k + 1) cg)) := (hU2.mono (fun _ h => .inr h)).trans ((Upd.set (F := (· = bt)) w2 bt 1 _ rfl).mono (fun _ h => .inl h))
  have hTq := HT1.out.mono hA
  have hMA4 := hMA.upd hUq (fun e => by
    rcases e with e | e
    · exact hMA.ne hTq.head e.symm
    · exact hMA.neR hTq.row e)
  have hMO4 := hMO.upd hUq (fun e => by
    rcases e with e | e
    · exact hMO.ne hTq.head e.symm
    · exact hMO.neR hTq.row e)
  have hgl : av.ownBlock = some g ∨ w.heap.size ≤ g := hg.imp id (fun h => Nat.le_trans (Nat.le_trans HB.out.size hA.size) h)
  obtain ⟨W4, hW4⟩ : ∃ W4, w2.setCell ⟨bt, 1, none⟩ (.slice (some ⟨g, 0, none⟩) (k + 1) cg) = W4 := ⟨_, rfl⟩
  rw [hW4] at hT4 hU4 hMA4 hMO4 ⊢
  have hF0 : ¬ (w.heap.size = bt ∨ av.ownBlock = some w.heap.size) := by rintro (e | e); exact hne e; exact HN0.out e
  have r0 := (hU4.cell hb01 hF0 0).trans k0
  have r1 := (hU4.cell hb01 hF0 1).trans k1
  have r2 := (hU4.cell hb01 hF0 2).trans k2
  have r3 := (hU4.cell hb01 hF0 3).trans k3
  have r4 := (hU4.cell hb01 hF0 4).trans k4
  have r5 := (hU4.cell hb01 hF0 5).trans k5
  have r6 := (hU4.cell hb01 hF0 6).trans k6
  obtain ⟨_, t2, _⟩ := hT4.cells
  have hbt4 : bt < W4.heap.size := hT4.lt
  have hb04 : w.heap.size < W4.heap.size := Nat.lt_of_lt_of_le hb01 hU4.size
  have HM1 := Lib.hid (hMA4.ne hT4.head)
  have HM0 := Lib.hid (hMA4.neC r0)
  have HT4 := Lib.hid hT4
  have HU4 := Lib.hid hU4
  have HMA4 := Lib.hid hMA4
  have HMO4 := Lib.hid hMO4
  have HFO := Lib.hid hfO
  have HGL := Lib.hid hgl
  have hwr : IntKind.i64.wrap ((k : Int) + 1) = (k : Int) + 1 := IntWalk.i64_in _ (by omega)
  clear hW4 hTq hUq hMA hMO hT4 hU4 hMA4 hMO4 hfO hgl hg hrun hown hU2 hS hS0 u1 u2 hA hb hblt HBB HBC k0 k1 k2 k3 k4 k5 k6 t1 hfz hF0
  go_wp2_with fail
  refine startD (Upd (fun j => j = mat) W4) (fun j => false) 9 #[false, false, false, false, false, false, false, false, false] (by kernel_rfl) rfl rfl ((Upd.refl _ _).drew) (fun hS => ?_)
  have hA : Below W4.heap.size W4 W4.drew := (Below.refl _ _).drew
  refine' takeP 0 8 (some 30) #[true, false, false, false, false, false, false, false, false] (v := _) rfl rfl rfl (by kernel_rfl) (by kernel_rfl) (by kernel_rfl) rfl (fun _ _ _ h => h) rfl hS (fun wz hz => ?y10) ?r10
  case y10 => (go_simp; try with_reducible rfl)
  try simp only [Act.put, List.setIfInBounds_toArray, List.set_cons_zero, List.set_cons_succ]
  refine' takeP 1 7 (some 31) #[true, true, false, false, false, false, false, false, false] (v := _) rfl rfl rfl (by kernel_rfl) (by kernel_rfl) (by kernel_rfl) rfl (fun _ _ _ h => h) rfl hS (fun wz hz => ?y11) ?r11
  case y11 => (go_simp; try with_reducible rfl)
  try simp only [Act.put, List.setIfInBounds_toArray, List.set_cons_zero, List.set_cons_succ]
  refine' takeP 2 6 (some 32) #[true, true, true, false, false, false, false, false, false] (v := _) rfl rfl rfl (by kernel_rfl) (by kernel_rfl) (by kernel_rfl) rfl (fun _ _ _ h => h) rfl hS (fun wz hz => ?y12) ?r12
  case y12 => (go_simp; try with_reducible rfl)
  try simp only [Act.put, List.setIfInBounds_toArray, List.set_cons_zero, List.set_cons_succ]
  refine' takeD 3 5 (some 33) #[true, true, true, true, false, false, false, false, false] (v := _) rfl rfl rfl (by kernel_rfl) (by kernel_rfl) (by kernel_rfl) (by kernel_rfl) (by kernel_rfl) rfl (fun _ _ _ h => h) rfl hS (fun wz hz => ?y13) ?r13
  case y13 => (have q2 := (hz.cell hbt4 HM1.out 2).trans t2; have q0 := (hz.cell hb04 HM0.out 0).trans r0; have q1 := (hz.cell hb04 HM0.out 1).trans r1; have q2' := (hz.cell hb04 HM0.out 2).trans r2; have q3 := (hz.cell hb04 HM0.out 3).trans r3; have q4 := (hz.cell hb04 HM0.out 4).trans r4; have q5 := (hz.cell hb04 HM0.out 5).trans r5; have q6 := (hz.cell hb04 HM0.out 6).trans r6; go_simp; try with_reducible rfl)
  try simp only [Act.put, List.setIfInBounds_toArray, List.set_cons_zero, List.set_cons_succ]
  refine' takeD 4 4 (some 34) #[true, true, true, true, true, false, false, false, false] (v := _) rfl rfl rfl (by kernel_rfl) (by kernel_rfl) (by kernel_rfl) (by kernel_rfl) (by kernel_rfl) rfl (fun _ _ _ h => h) rfl hS (fun wz hz => ?y14) ?r14
  case y14 => (have q2 := (hz.cell hbt4 HM1.out 2).trans t2; have q0 := (hz.cell hb04 HM0.out 0).trans r0; have q1 := (hz.cell hb04 HM0.out 1).trans r1; have q2' := (hz.cell hb04 HM0.out 2).trans r2; have q3 := (hz.cell hb04 HM0.out 3).trans r3; have q4 := (hz.cell hb04 HM0.out 4).trans r4; have q5 := (hz.cell hb04 HM0.out 5).trans r5; have q6 := (hz.cell hb04 HM0.out 6).trans r6; go_simp; try with_reducible rfl)
  try simp only [Act.put, List.setIfInBounds_toArray, List.set_cons_zero, List.set_cons_succ]
  refine' takeP 6 3 (some 36) #[true, true, true, true, true, false, true, false, false] (v := _) rfl rfl rfl (by kernel_rfl) (by kernel_rfl) (by kernel_rfl) rfl (fun _ _ _ h => h) rfl hS (fun wz hz => ?y15) ?r15
  case y15 => (go_simp; try with_reducible rfl)
  try simp only [Act.put, List.setIfInBounds_toArray, List.set_cons_zero, List.set_cons_succ]
  refine' takeP 7 2 (some 37) #[true, true, true, true, true, false, true, true, false] (v := _) rfl rfl rfl (by kernel_rfl) (by kernel_rfl) (by kernel_rfl) rfl (fun _ _ _ h => h) rfl hS (fun wz hz => ?y16) ?r16
  case y16 => (go_simp; try with_reducible rfl)
  try simp only [Act.put, List.setIfInBounds_toArray, List.set_cons_zero, List.set_cons_succ]
  refine callD 5 1 (some 35) #[true, true, true, true, true, true, true, true, false] 64 [.agg #[.int .i64 6, .slice none 0 0, .bool false, .slice none 0 0, .slice none 0 0, .int .i64 (x : Nat), .int .i64 0]] rfl rfl rfl (by kernel_rfl) rfl rfl rfl Tryz.func64 rfl (by kernel_rfl) (key_any _ x hx) ?_
  rintro v w' hb rfl
  have hsz := hS.size
  replace hS := hS.trans (Upd.of hb)
  replace hA := hA.trans (hb.mono hA.size)
  clear hb
  refine ⟨hS, ?_⟩
  try simp only [Act.put, List.setIfInBounds_toArray, List.set_cons_zero, List.set_cons_succ]
  refine onlyD 8 0 #[true, true, true, true, true, true, true, true, true] rfl rfl (by kernel_rfl) rfl (fun K hK => ?_)
  refine wp_storeV _ _ _ 99 rfl 9 3 (Maps.string_keyed Tryz.underlying9) Tryz.underlying99 mat nA _ rfl (HMA4.out.mono hA) (by unfold maxLen; omega) _ (.int .i64 ((k : Int) + 1)) _ rfl rfl (key_of x hx) ?_
  intro w5 hM5 hU5
  replace hS := hS.trans hU5
  refine hK _ _ (fun _ => hS) ?_
  clear hK K
  try simp only [Act.put, List.setIfInBounds_toArray, List.set_cons_zero, List.set_cons_succ]
  refine doneD (by kernel_rfl) ?_ _
  obtain ⟨_, e2, e3⟩ := HT4.out.cells
  have HT5 := Lib.hid (HT4.out.mono hA |>.atStore hU5 hM5 (by omega))
  have hU05 : Upd (fun j => j = mat) W4 w5 := hS
  have HU5 := Lib.hid hU05
  have HMO5 := Lib.hid (HMO4.out.upd hU05 (fun e => HT4.out.d1 e.symm))
  clear hM5 hU5 hU05 hS hA hwr r0 r1 r2 r3 r4 r5 r6 t2 e2 e3 hsz
  obtain ⟨f1, _, f3⟩ := HT5.out.cells
  have g7 := HT5.out.row.cells (g := g) rfl (k * 10 + 7) _ (rowC_get (g := atK _ _ A) (by omega) (by omega : 7 < 10))
  have hadd : (⟨g, 0, none⟩ : Addr).add (k * 10 + 7) = ⟨g, k * 10 + 7, none⟩ := by unfold Addr.add; split <;> simp_all
  rw [hadd] at g7
  simp only [atK, if_true] at g7
  obtain ⟨v1, v2, _, _⟩ := HT5.out.vars k (by omega)
  simp only [if_true] at v1 v2
  rw [HAX.out] at v1
  have hklt : (k : Int) < (k : Int) + 1 := by omega
  clear hadd
  go_wp2_with fail
  refine wp_loop_rounds 2 ?_
  rw [rounds_succ]
  go_wp2_with fail
  have hbt5 : bt < w5.heap.size := HT5.out.lt
  have HNO : Hid (onI fO (.int .i64 (x : Nat)) = none) := HFO.out (x : Nat) (fun j hj e => HD.out j hj (by omega))
  have hIx : I64 (x : Nat) := by unfold I64; omega
  have HIX := Lib.hid hIx
  clear hIx g7 v1 v2 f1 hklt
  refine startD (Below w5.heap.size w5) (fun j => j == 14) 15 #[false, false, false, false, false, false, false, false, false, false, false, false, false, false, false] (by kernel_rfl) rfl rfl ((Below.refl _ _).drew) (fun hS => ?_)
  have hA : Below w5.heap.size w5 w5.drew := (Below.refl _ _).drew
  refine' takeP 0 14 (some 51) #[true, false, false, false, false, false, false, false, false, false, false, false, false, false, false] (v := _) rfl rfl rfl (by kernel_rfl) (by kernel_rfl) (by kernel_rfl) rfl (fun _ _ _ h => h) rfl hS (fun wz hz => ?y17) ?r17
  case y17 => (go_simp; try with_reducible rfl)
  try simp only [Act.put, List.setIfInBounds_toArray, List.set_cons_zero, List.set_cons_succ]
  refine' takeP 1 13 (some 52) #[true, true, false, false, false, false, false, false, false, false, false, false, false, false, false] (v := _) rfl rfl rfl (by kernel_rfl) (by kernel_rfl) (by kernel_rfl) rfl (fun _ _ _ h => h) rfl hS (fun wz hz => ?y18) ?r18
  case y18 => (go_simp; try with_reducible rfl)
  try simp only [Act.put, List.setIfInBounds_toArray, List.set_cons_zero, List.set_cons_succ]
  refine' takeP 2 12 (some 53) #[true, true, true, false, false, false, false, false, false, false, false, false, false, false, false] (v := _) rfl rfl rfl (by kernel_rfl) (by kernel_rfl) (by kernel_rfl) rfl (fun _ _ _ h => h) rfl hS (fun wz hz => ?y19) ?r19
  case y19 => (go_simp; try with_reducible rfl)
  try simp only [Act.put, List.setIfInBounds_toArray, List.set_cons_zero, List.set_cons_succ]
  refine' takeD 3 11 (some 54) #[true, true, true, true, false, false, false, false, false, false, false, false, false, false, false] (v := _) rfl rfl rfl (by kernel_rfl) (by kernel_rfl) (by kernel_rfl) (by kernel_rfl) (by kernel_rfl) rfl (fun _ _ _ h => h) rfl hS (fun wz hz => ?y20) ?r20
  case y20 => (have q3 := (hz.cell (p := ⟨bt, 3, none⟩) hbt5).trans f3; have rl : (Instr.lookup 100 (.map (some mof)) (.int .i64 (x : Nat)) false).run Tryz.prog wz = .ok (.slice none 0 0) wz := (by have r := (HMO5.out.mono hz).look (t := 100) (Maps.int_keyed Tryz.underlying3) Tryz.underlying100 (Tryz.zeroValue29 _) (key_int Tryz.underlying3 HIX.out); rw [HNO.out] at r; exact r); go_simp; try with_reducible rfl)
  try simp only [Act.put, List.setIfInBounds_toArray, List.set_cons_zero, List.set_cons_succ]
  refine' takeP 4 10 (some 55) #[true, true, true, true, true, false, false, false, false, false, false, false, false, false, false] (v := _) rfl rfl rfl (by kernel_rfl) (by kernel_rfl) (by kernel_rfl) rfl (fun _ _ _ h => h) rfl hS (fun wz hz => ?y21) ?r21
  case y21 => (go_simp; try with_reducible rfl)
  try simp only [Act.put, List.setIfInBounds_toArray, List.set_cons_zero, List.set_cons_succ]
  refine' takeP 5 9 (some 56) #[true, true, true, true, true, true, false, false, false, false, false, false, false, false, false] (v := _) rfl rfl rfl (by kernel_rfl) (by kernel_rfl) (by kernel_rfl) rfl (fun _ _ _ h => h) rfl hS (fun wz hz => ?y22) ?r22
  case y22 => (go_simp; try with_reducible rfl)
  try simp only [Act.put, List.setIfInBounds_toArray, List.set_cons_zero, List.set_cons_succ]
  refine' takeP 6 8 (some 57) #[true, true, true, true, true, true, true, false, false, false, false, false, false, false, false] (v := _) rfl rfl rfl (by kernel_rfl) (by kernel_rfl) (by kernel_rfl) rfl (fun _ _ _ h => h) rfl hS (fun wz hz => ?y23) ?r23
  case y23 => (go_simp; try with_reducible rfl)
  try simp only [Act.put, List.setIfInBounds_toArray, List.set_cons_zero, List.set_cons_succ]
  refine' takeP 7 7 (some 58) #[true, true, true, true, true, true, true, true, false, false, false, false, false, false, false] (v := _) rfl rfl rfl (by kernel_rfl) (by kernel_rfl) (by kernel_rfl) rfl (fun _ _ _ h => h) rfl hS (fun wz hz => ?y24) ?r24
  case y24 => (go_simp; try with_reducible rfl)
  try simp only [Act.put, List.setIfInBounds_toArray, List.set_cons_zero, List.set_cons_succ]
  refine' takeD 8 6 (some 59) #[true, true, true, true, true, true, true, true, true, false, false, false, false, false, false] (v := _) rfl rfl rfl (by kernel_rfl) (by kernel_rfl) (by kernel_rfl) (by kernel_rfl) (by kernel_rfl) rfl (fun _ _ _ h => h) rfl hS (fun wz hz => ?y25) ?r25
  case y25 => (have q3 := (hz.cell (p := ⟨bt, 3, none⟩) hbt5).trans f3; have rl : (Instr.lookup 100 (.map (some mof)) (.int .i64 (x : Nat)) false).run Tryz.prog wz = .ok (.slice none 0 0) wz := (by have r := (HMO5.out.mono hz).look (t := 100) (Maps.int_keyed Tryz.underlying3) Tryz.underlying100 (Tryz.zeroValue29 _) (key_int Tryz.underlying3 HIX.out); rw [HNO.out] at r; exact r); go_simp; try with_reducible rfl)
  try simp only [Act.put, List.setIfInBounds_toArray, List.set_cons_zero, List.set_cons_succ]
  refine' takeP 9 5 (some 60) #[true, true, true, true, true, true, true, true, true, true, false, false, false, false, false] (v := _) rfl rfl rfl (by kernel_rfl) (by kernel_rfl) (by kernel_rfl) rfl (fun _ _ _ h => h) rfl hS (fun wz hz => ?y26) ?r26
  case y26 => (go_simp; try with_reducible rfl)
  try simp only [Act.put, List.setIfInBounds_toArray, List.set_cons_zero, List.set_cons_succ]
  refine' takeD 10 4 (some 61) #[true, true, true, true, true, true, true, true, true, true, true, false, false, false, false] (v := _) rfl rfl rfl (by kernel_rfl) (by kernel_rfl) (by kernel_rfl) (by kernel_rfl) (by kernel_rfl) rfl (fun _ _ _ h => h) rfl hS (fun wz hz => ?y27) ?r27
  case y27 => (have q3 := (hz.cell (p := ⟨bt, 3, none⟩) hbt5).trans f3; have rl : (Instr.lookup 100 (.map (some mof)) (.int .i64 (x : Nat)) false).run Tryz.prog wz = .ok (.slice none 0 0) wz := (by have r := (HMO5.out.mono hz).look (t := 100) (Maps.int_keyed Tryz.underlying3) Tryz.underlying100 (Tryz.zeroValue29 _) (key_int Tryz.underlying3 HIX.out); rw [HNO.out] at r; exact r); go_simp; try with_reducible rfl)
  try simp only [Act.put, List.setIfInBounds_toArray, List.set_cons_zero, List.set_cons_succ]
  refine' takeP 11 3 (some 62) #[true, true, true, true, true, true, true, true, true, true, true, true, false, false, false] (v := _) rfl rfl rfl (by kernel_rfl) (by kernel_rfl) (by kernel_rfl) rfl (fun _ _ _ h => h) rfl hS (fun wz hz => ?y28) ?r28
  case y28 => (go_simp; try with_reducible rfl)
  try simp only [Act.put, List.setIfInBounds_toArray, List.set_cons_zero, List.set_cons_succ]
  refine onlyD 12 2 #[true, true, true, true, true, true, true, true, true, true, true, true, true, false, false] rfl rfl (by kernel_rfl) rfl (fun K hK => ?_)
  go_simp
  have hS0 := hS
  replace hS := hS.alloc hS.size (.cells #[.int .i64 (k : Nat)] 3)
  refine hK _ _ (fun _ => hS) ?_
  clear hK K
  try simp only [Act.put, List.setIfInBounds_toArray, List.set_cons_zero, List.set_cons_succ]
  refine onlyD 13 1 #[true, true, true, true, true, true, true, true, true, true, true, true, true, true, false] rfl rfl (by kernel_rfl) rfl (fun K hK => ?_)
  obtain ⟨v3, w3, hrun, _, hU3, _⟩ := append_int (OwnI.nil w5.drew) (k : Nat) (by simp)
  refine wp_append_by _ _ 29 rfl _ _ _ _ rfl rfl hrun ?_
  replace hS := hS0.trans (hU3.below (B := w5.heap.size) (fun j _ hF => by simp [Value.ownBlock] at hF) hS0.size)
  refine hK _ _ (fun _ => hS) ?_
  clear hK K
  try simp only [Act.put, List.setIfInBounds_toArray, List.set_cons_zero, List.set_cons_succ]
  refine onlyD 14 0 #[true, true, true, true, true, true, true, true, true, true, true, true, true, true, true] rfl rfl (by kernel_rfl) rfl (fun K hK => ?_)
  refine wp_storeV _ _ _ 100 rfl 3 29 (Maps.int_keyed Tryz.underlying3) Tryz.underlying100 mof nO _ rfl (HMO5.out.mono hS) (by unfold maxLen; omega) _ v3 _ rfl rfl (key_int Tryz.underlying3 HIX.out) ?_
  intro w6 hM6 hU6
  refine hK _ _ (fun h => absurd (h 14 rfl) (by decide)) ?_
  clear hK K
  try simp only [Act.put, List.setIfInBounds_toArray, List.set_cons_zero, List.set_cons_succ]
  refine doneD (by kernel_rfl) ?_ _
  rw [putK_onI] at hM6
  have HT6 := Lib.hid ((HT5.out.mono hS).ofStore hU6 hM6 (by omega) (fun y hy => by
    have h1 : y ≠ (x : Nat) := fun e => hy k (by omega) (by rw [HAX.out, e])
    rw [if_neg h1]
    exact HFO.out y (fun j hj => hy j (by omega))))
  have HU6 : Hid (Upd (fun j => j = bt ∨ av.ownBlock = some j ∨ j = mat ∨ j = mof) w w6) :=
    (((Upd.of HB.out).trans (HU4.out.mono (fun j hj => by rcases hj with h | h; exact .inl h; exact .inr (.inl h)))).trans (HU5.out.mono (fun j hj => .inr (.inr (.inl hj))))).trans ((Upd.of hS).trans (hU6.mono (fun j hj => .inr (.inr (.inr hj)))))
  clear hM6 hU6 hS hA hS0 hrun hU3 f3
  have hk1 : (k : Int) < 9223372036854775807 := by omega
  go_wp2_with fail
  rw [rounds_succ]
  go_wp2_with fail
  go_ret
  exact ⟨rfl, HU6.out, _, _, _, HT6.out, fun j hj => by
    injection hj with hj
    have hj' : g = j := hj
    rw [← hj']
    exact HGL.out⟩

end Go.Proofs.YtodeddappmfphaaGreatDoor
