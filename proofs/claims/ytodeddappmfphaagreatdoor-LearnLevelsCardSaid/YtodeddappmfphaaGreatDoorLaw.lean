/- What the laws of learn share: the problem that they build; trails that are alike. -/
import Derived.Test.YtodeddappmfphaaGreatDoorAwk
namespace Go.Thd
open Go.RowKit
/-- An append to an own row, of one element of whatever size. -/
theorem append_rowG {P : Program} {W : World} {v : Value} {k : Nat} {xs : List Value} (tS tE : TypeId) (sz by' : Nat) (z : Value) (hS : P.underlying tS = some (.slice tE)) (hi : (P.info? tE).map (fun i => (i.zero, i.size, i.bytes)) = some (some z, sz, by')) (hz : z.cells.size = sz) (h0 : 0 < sz) (hby : by' ≤ 1000)
    (h : W.ownsRow 0 tE sz v k xs) (cs : List Value) (hl : cs.length = sz) (h1 : ∀ u ∈ cs, u.oneCell' = true) (hk : k < 1000) :
    ∃ g cap w', (Builtin.append_ #[tS, tS] tS #[v, .slice (some ⟨W.heap.size, 0, none⟩) 1 1]).run P (W.alloc (.cells cs.toArray tE)) = .ok (.slice (some ⟨g, 0, none⟩) (k + 1) cap) w' ∧
      w'.ownsRow 0 tE sz (.slice (some ⟨g, 0, none⟩) (k + 1) cap) (k + 1) (xs ++ cs) ∧ Upd (fun b => v.ownBlock = some b) W w' ∧ (v.ownBlock = some g ∨ W.heap.size ≤ g) := by
  have hB1 : Below W.heap.size W (W.alloc (.cells cs.toArray tE)) := (Below.refl _ _).alloc (Nat.le_refl _) _
  obtain ⟨i0, hi1, hi2, hi3, hi4⟩ := info_parts hi
  obtain ⟨v', w', hrun, hown, hgr, _, hblk⟩ := run_append_own_at (P := P) (W.alloc (.cells cs.toArray tE)) 0 tS tS tE i0 _ sz by' hS hi1 hi2 hi3 hi4 hz h0
    v k _ (ownsRow_upd h (F := fun _ => False) (.of hB1) (fun _ _ h => h)) ⟨W.heap.size, 0, none⟩ 1 1 cs (by omega) (fun j u hj => news_cells W cs _ j u hj) h1 (by unfold maxLen; omega) (by have := Nat.mul_le_mul (show k + 1 ≤ 1000 by omega) hby; omega) (by simp)
  obtain ⟨g, cap, rfl⟩ : ∃ be ce, v' = .slice (some ⟨be, 0, none⟩) (k + 1) ce := by
    rcases hown.2 with ⟨_, h0⟩ | ⟨g, cap, cur, hv, _⟩
    · omega
    · exact ⟨g, cap, hv⟩
  refine ⟨g, cap, w', hrun, hown, Upd.trans (.of hB1) (.grown hgr (fun k hk => hk)), ?_⟩
  rcases hblk with h | h
  · exact .inl h.symm
  · injection h with h
    simp at h
    exact .inr (by omega)
end Go.Thd
namespace Go.Proofs.YtodeddappmfphaaGreatDoor
open Go.RowKit Go.Thd

def vG (i j : Nat) : Value := match j with | 0 => .int .i64 (i : Nat) | _ => .int .i64 0
def aG (i j : Nat) : Value := match j with | 0 => .int .i64 6 | 1 => .slice none 0 0 | 2 => .bool false | 3 => .slice none 0 0 | 4 => .slice none 0 0 | 5 => .int .i64 (i : Nat) | _ => .int .i64 0
theorem infoV : (Tryz.prog.info? 58).map (fun i => (i.zero, i.size, i.bytes)) = some (some (.agg #[.int .i64 0, .int .i64 0]), 2, 16) := by kernel_rfl
theorem infoA : (Tryz.prog.info? 51).map (fun i => (i.zero, i.size, i.bytes)) = some (some (.agg #[.int .i64 0, .slice none 0 0, .bool false, .slice none 0 0, .slice none 0 0, .int .i64 0, .int .i64 0]), 7, 104) := by kernel_rfl

/-- A problem that is being built: k constants and atoms. -/
structure PB (w : World) (bp : Nat) (vv va : Value) (k : Nat) : Prop where
  head : w.heap[bp]? = some (.cells #[vv, va, .slice none 0 0, .slice none 0 0] 27 (0, 0))
  vars : w.ownsRow 0 58 2 vv k (rowC k 2 vG)
  atoms : w.ownsRow 0 51 7 va k (rowC k 7 aG)
  n1 : vv.ownBlock ≠ some bp
  n2 : va.ownBlock ≠ some bp
  n3 : ∀ b, vv.ownBlock = some b → va.ownBlock ≠ some b
theorem PB.lt {w : World} {bp : Nat} {vv va : Value} {k : Nat} (h : PB w bp vv va k) : bp < w.heap.size := (Array.getElem?_eq_some_iff.1 h.head).1
theorem row_slice {w : World} {base sz k : Nat} {e : TypeId} {v : Value} {xs : List Value} (h : w.ownsRow base e sz v k xs) : ∃ a c, v = .slice a k c := by
  rcases h.2 with ⟨rfl, rfl⟩ | ⟨g, cap, cur, rfl, _⟩
  · exact ⟨none, 0, rfl⟩
  · exact ⟨_, cap, rfl⟩
theorem PB.step {w : World} {bp : Nat} {vv va : Value} {k : Nat} (h : PB w bp vv va k) (hk : k < 1000) :
    ∃ gv cv w2 ga ca w4,
      (Builtin.append_ #[22, 22] 22 #[vv, .slice (some ⟨w.heap.size, 0, none⟩) 1 1]).run Tryz.prog (w.alloc (.cells #[.int .i64 (k : Nat), .int .i64 0] 58)) = .ok (.slice (some ⟨gv, 0, none⟩) (k + 1) cv) w2 ∧
      (w2.cell? ⟨bp, 0, none⟩ = some vv ∧ w2.frozen? ⟨bp, 0, none⟩ = false) ∧
      (w2.setCell ⟨bp, 0, none⟩ (.slice (some ⟨gv, 0, none⟩) (k + 1) cv)).cell? ⟨bp, 1, none⟩ = some va ∧
      (Builtin.append_ #[23, 23] 23 #[va, .slice (some ⟨w2.heap.size, 0, none⟩) 1 1]).run Tryz.prog
        ((w2.setCell ⟨bp, 0, none⟩ (.slice (some ⟨gv, 0, none⟩) (k + 1) cv)).alloc (.cells #[.int .i64 6, .slice none 0 0, .bool false, .slice none 0 0, .slice none 0 0, .int .i64 (k : Nat), .int .i64 0] 51)) = .ok (.slice (some ⟨ga, 0, none⟩) (k + 1) ca) w4 ∧
      (w4.cell? ⟨bp, 1, none⟩ = some va ∧ w4.frozen? ⟨bp, 1, none⟩ = false) ∧
      PB (w4.setCell ⟨bp, 1, none⟩ (.slice (some ⟨ga, 0, none⟩) (k + 1) ca)) bp (.slice (some ⟨gv, 0, none⟩) (k + 1) cv) (.slice (some ⟨ga, 0, none⟩) (k + 1) ca) (k + 1) ∧
      Upd (fun b => b = bp ∨ vv.ownBlock = some b ∨ va.ownBlock = some b) w (w4.setCell ⟨bp, 1, none⟩ (.slice (some ⟨ga, 0, none⟩) (k + 1) ca)) ∧ (vv.ownBlock = some gv ∨ w.heap.size ≤ gv) ∧ (va.ownBlock = some ga ∨ w.heap.size ≤ ga) := by
  have hlt := h.lt
  obtain ⟨gv, cv, w2, hr1, ho1, hu1, hg1⟩ := append_rowG (P := Tryz.prog) 22 58 2 16 _ Tryz.underlying22 infoV rfl (by decide) (by decide) h.vars [.int .i64 (k : Nat), .int .i64 0] rfl (by intro u hu; simp at hu; rcases hu with rfl | rfl <;> rfl) hk
  have hb2 : w2.heap[bp]? = _ := (hu1.block bp hlt h.n1).trans h.head
  have hlt2 : bp < w2.heap.size := Nat.lt_of_lt_of_le hlt hu1.size
  have hs1 : Upd (· = bp) w2 (w2.setCell ⟨bp, 0, none⟩ (.slice (some ⟨gv, 0, none⟩) (k + 1) cv)) := Upd.set _ _ _ _ rfl
  have hav : ∀ b, va.ownBlock = some b → b < w.heap.size := fun b hb => (h.atoms.lt b hb).2
  have hvv : ∀ b, vv.ownBlock = some b → b < w.heap.size := fun b hb => (h.vars.lt b hb).2
  have hat2 : w2.ownsRow 0 51 7 va k (rowC k 7 aG) := ownsRow_upd h.atoms hu1 (fun b hb e => h.n3 b e hb)
  have hat3 := ownsRow_upd hat2 hs1 (fun b hb e => h.n2 (by rw [hb, e]))
  have hgvb : gv ≠ bp := by
    rcases hg1 with h1 | h1
    · exact fun e => h.n1 (by rw [h1, e])
    · omega
  have hva3 : w2.ownsRow 0 58 2 (.slice (some ⟨gv, 0, none⟩) (k + 1) cv) (k + 1) (rowC k 2 vG ++ [.int .i64 (k : Nat), .int .i64 0]) := ho1
  have hva4 := ownsRow_upd hva3 hs1 (fun b hb e => hgvb ((Option.some.inj (show some gv = some b from hb)).trans e))
  obtain ⟨ga, ca, w4, hr2, ho2, hu2, hg2⟩ := append_rowG (P := Tryz.prog) 23 51 7 104 _ Tryz.underlying23 infoA rfl (by decide) (by decide) hat3 [.int .i64 6, .slice none 0 0, .bool false, .slice none 0 0, .slice none 0 0, .int .i64 (k : Nat), .int .i64 0] rfl (by intro u hu; simp at hu; rcases hu with rfl | rfl | rfl | rfl | rfl | rfl | rfl <;> rfl) hk
  have hb3 : (w2.setCell ⟨bp, 0, none⟩ (.slice (some ⟨gv, 0, none⟩) (k + 1) cv)).heap[bp]? = some (.cells #[.slice (some ⟨gv, 0, none⟩) (k + 1) cv, va, .slice none 0 0, .slice none 0 0] 27 (0, 0)) := by
    simp [World.setCell, Array.getElem?_modify, hb2]
  have hlt3 : bp < (w2.setCell ⟨bp, 0, none⟩ (.slice (some ⟨gv, 0, none⟩) (k + 1) cv)).heap.size := Nat.lt_of_lt_of_le hlt2 hs1.size
  have hb4 : w4.heap[bp]? = _ := (hu2.block bp hlt3 h.n2).trans hb3
  have hs2 : Upd (· = bp) w4 (w4.setCell ⟨bp, 1, none⟩ (.slice (some ⟨ga, 0, none⟩) (k + 1) ca)) := Upd.set _ _ _ _ rfl
  have hs1z : w2.heap.size = (w2.setCell ⟨bp, 0, none⟩ (.slice (some ⟨gv, 0, none⟩) (k + 1) cv)).heap.size := by simp [World.setCell]
  rw [← hs1z] at hr2
  have hg2' : va.ownBlock = some ga ∨ w2.heap.size ≤ ga := by rw [hs1z]; exact hg2
  have hgab : ga ≠ bp := by
    rcases hg2' with h1 | h1
    · exact fun e => h.n2 (by rw [h1, e])
    · omega
  have hgvlt : gv < w2.heap.size := by
    have := (ho1.lt gv rfl).2
    exact this
  have hgg : gv ≠ ga := by
    rcases hg2' with h1 | h1
    · rcases hg1 with h2 | h2
      · exact fun e => h.n3 gv h2 (by rw [h1, e])
      · have := hav _ h1; omega
    · omega
  refine ⟨gv, cv, w2, ga, ca, w4, hr1, ⟨by simp [World.cell?, hb2], by simp [World.frozen?, hb2]⟩, by simp [World.cell?, hb3], hr2, ⟨by simp [World.cell?, hb4], by simp [World.frozen?, hb4]⟩, ?_, ?_, hg1, ?_⟩
  · refine { head := ?_, vars := ?_, atoms := ?_, n1 := ?_, n2 := ?_, n3 := ?_ }
    · simp [World.setCell, Array.getElem?_modify, hb4]
    · rw [rowC_succ _ _ _ (by decide)]
      exact ownsRow_upd (ownsRow_upd hva4 hu2 (fun b hb e => by
        have hb' : gv = b := by injection hb
        rw [← hb'] at e
        rcases hg1 with h1 | h1
        · exact h.n3 gv h1 e
        · have := hav _ e; omega)) hs2 (fun b hb e => hgvb ((Option.some.inj (show some gv = some b from hb)).trans e))
    · rw [rowC_succ _ _ _ (by decide)]
      exact ownsRow_upd ho2 hs2 (fun b hb e => hgab ((Option.some.inj (show some ga = some b from hb)).trans e))
    · exact fun e => hgvb (by injection e)
    · exact fun e => hgab (by injection e)
    · intro b hb e
      have h1 : gv = b := by injection hb
      have h2 : ga = b := by injection e
      exact hgg (by rw [h1, h2])
  · exact (((hu1.mono (fun _ h => .inr (.inl h))).trans (hs1.mono (fun _ h => .inl h))).trans (hu2.mono (fun _ h => .inr (.inr h)))).trans (hs2.mono (fun _ h => .inl h))
  · rcases hg2' with h1 | h1
    · exact .inl h1
    · exact .inr (Nat.le_trans hu1.size h1)
theorem PB.cells {w : World} {bp : Nat} {vv va : Value} {k : Nat} (h : PB w bp vv va k) : w.cell? ⟨bp, 0, none⟩ = some vv ∧ w.cell? ⟨bp, 1, none⟩ = some va ∧ w.cell? ⟨bp, 2, none⟩ = some (.slice none 0 0) ∧ w.cell? ⟨bp, 3, none⟩ = some (.slice none 0 0) := by
  simp [World.cell?, h.head]
theorem PB.zero (w : World) : PB (w.alloc (.cells #[.slice none 0 0, .slice none 0 0, .slice none 0 0, .slice none 0 0] 27)) w.heap.size (.slice none 0 0) (.slice none 0 0) 0 where
  head := heap_alloc_new w _
  vars := World.ownsRow_nil _ 0 58 2
  atoms := World.ownsRow_nil _ 0 51 7
  n1 := by simp [Value.ownBlock]
  n2 := by simp [Value.ownBlock]
  n3 := by intro b hb; simp [Value.ownBlock] at hb
theorem row_at {w : World} {e : TypeId} {sz n : Nat} {v : Value} {g : Nat → Nat → Value} (h : w.ownsRow 0 e sz v n (rowC n sz g)) (hn : 0 < n) : ∃ b c, v = .slice (some ⟨b, 0, none⟩) n c ∧ b < w.heap.size ∧ ∀ i j, i < n → j < sz → w.cell? ⟨b, i * sz + j, none⟩ = some (g i j) := by
  rcases h.2 with ⟨_, h0⟩ | ⟨b, cap, cur, rfl, _, hg, _⟩
  · omega
  · refine ⟨b, cap, rfl, (Array.getElem?_eq_some_iff.1 hg).1, fun i j hi hj => ?_⟩
    have := h.cells (g := b) rfl (i * sz + j) _ (rowC_get hi hj)
    have hadd : (⟨b, 0, none⟩ : Addr).add (i * sz + j) = ⟨b, i * sz + j, none⟩ := by unfold Addr.add; split <;> simp_all
    rwa [hadd] at this
theorem PB.prob {w : World} {bp : Nat} {vv va : Value} {n : Nat} (h : PB w bp vv va n) (h0 : 0 < n) (hn : n ≤ 100) :
    ∃ bv cv ba ca, vv = .slice (some ⟨bv, 0, none⟩) n cv ∧ va = .slice (some ⟨ba, 0, none⟩) n ca ∧ Prob w bv cv ba ca (idsL n 0) n (fun j => j + 0) := by
  obtain ⟨bv, cv, rfl, hv, hvc⟩ := row_at h.vars h0
  obtain ⟨ba, ca, rfl, ha, hac⟩ := row_at h.atoms h0
  refine ⟨bv, cv, ba, ca, rfl, rfl, prob_of (by omega) hv ha (fun j hj => ⟨hvc j 0 hj (by omega), hvc j 1 hj (by omega)⟩) (fun j hj => ?_)⟩
  have hx : ∀ i, 0 + j * 7 + i = j * 7 + i := fun i => by omega
  simp only [hx, Nat.zero_add]
  exact ⟨hac j 0 hj (by omega), hac j 1 hj (by omega), hac j 2 hj (by omega), hac j 3 hj (by omega), hac j 4 hj (by omega), hac j 5 hj (by omega), hac j 6 hj (by omega)⟩

theorem OwnI.lit (w : World) (l : List Int) (h : l.length ≤ 1000) : OwnI (w.alloc (.cells (l.map (Value.int .i64)).toArray 3)) (.slice (some ⟨w.heap.size, 0, none⟩) l.length l.length) l :=
  ⟨by simp, .inr ⟨w.heap.size, l.length, (l.map (Value.int .i64)).toArray, rfl, Nat.zero_le _, heap_alloc_new w _, Nat.le_refl _, by unfold maxLen; omega, by simp, by
    rw [Nat.mul_one]
    exact List.take_of_length_le (by simp)⟩⟩

/-- Trails that differ in nothing that is there. -/
theorem Tr.congr {w : World} {T : TA} {S S' : St} (h : Tr w T S) (hn : S'.n = S.n) (hm : S'.m = S.m) (hl : S'.lv = S.lv) (hA : ∀ i, i < S.n → S'.A i = S.A i) (he : ∀ i, i < S.m → S'.e i = S.e i) (hent : ∀ i, i < S.n → S'.ent i = S.ent i) : Tr w T S' where
  head := by rw [hn, hl]; exact h.head
  atoms := by
    rw [hn, show rowC S.n 10 (atC T S') = rowC S.n 10 (atC T S) from rowC_congr fun i j hi hj => by unfold atC; rw [hA i hi, hent i hi]]
    exact h.atoms
  ents := by
    rw [hm, show rowC S.m 11 (enC T S') = rowC S.m 11 (enC T S) from rowC_congr fun i j hi hj => by unfold enC; rw [he i hi]]
    exact h.ents
  vals := h.vals
  vars := fun i hi => by rw [hn] at hi; rw [hA i hi]; exact h.vars i hi
  whys := fun i hi => by rw [hm] at hi; rw [he i hi]; exact h.whys i hi
  ne1 := h.ne1
  ne2 := h.ne2
  ne3 := h.ne3
  ne4 := h.ne4
  ent := fun i hi => by
    rw [hn] at hi
    rw [hent i hi, hm]
    rcases h.ent i hi with h1 | ⟨h1, h2⟩
    · exact .inl h1
    · by_cases h0 : S.ent i = 0
      · exact .inl h0
      · exact .inr ⟨h1, by rw [he _ (by omega)]; exact h2⟩
  few := by rw [hn]; exact h.few
  fewE := by rw [hm]; exact h.fewE
  pos := by rw [hn]; exact h.pos
  lvl := by rw [hl]; exact h.lvl
theorem TrB.congr {B : Nat} {w0 w : World} {T : TA} {S S' : St} (h : TrB B w0 w T S) (hn : S'.n = S.n) (hm : S'.m = S.m) (hl : S'.lv = S.lv) (hA : ∀ i, i < S.n → S'.A i = S.A i) (he : ∀ i, i < S.m → S'.e i = S.e i) (hent : ∀ i, i < S.n → S'.ent i = S.ent i) : TrB B w0 w T S' :=
  ⟨h.tr.congr hn hm hl hA he hent, h.own, h.below, h.size⟩
end Go.Proofs.YtodeddappmfphaaGreatDoor
