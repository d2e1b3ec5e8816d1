/- The trail's put, Decide, Force. -/
import Derived.Deep.RegionLaw
import Derived.Test.YtodeddappmfphaaGreatDoorTra
namespace Go.Proofs.YtodeddappmfphaaGreatDoor
open Go.RowKit Go.Thd

/-- What is put: kind, literal, why. -/
def enV (k l : Int) (a : Option Addr) (n c : Nat) (lv : Int) : List Value := [.int .i64 k, .int .i64 l, .slice a n c, .int .i64 0, .int .i64 0, .bool false, .bool false, .slice none 0 0, .slice none 0 0, .int .i64 0, .int .i64 lv]

theorem enV_one (k l : Int) (a : Option Addr) (n c : Nat) (lv : Int) : ∀ u ∈ enV k l a n c lv, u.oneCell' = true := by
  intro u hu
  simp only [enV, List.mem_cons, List.not_mem_nil, or_false] at hu
  rcases hu with h | h | h | h | h | h | h | h | h | h | h <;> subst h <;> rfl

def St.more (S : St) (k l : Int) (why : List Int) : St := { S with m := S.m + 1, e := fun i => if i = S.m then ⟨k, l, why, S.lv⟩ else S.e i }
def St.mark (S : St) (i j : Nat) : St := { S with ent := fun x => if x = i then j else S.ent x }
def St.put (S : St) (k l : Int) (why : List Int) : St := (S.more k l why).mark (l.natAbs - 1) (S.m + 1)
def TA.put (T : TA) (m : Nat) (ev : Value) (a : Option Addr) (c : Nat) : TA := { T with ev := ev, wa := fun i => if i = m then a else T.wa i, wc := fun i => if i = m then c else T.wc i }

theorem rowC_succ (n k : Nat) (g : Nat → Nat → Value) (hk : 0 < k) : rowC (n + 1) k g = rowC n k g ++ (List.range k).map (g n) := by
  apply List.ext_getElem?
  intro q
  have hlen : (rowC n k g).length = n * k := rowC_len n k g
  by_cases hq : q < n * k
  · rw [List.getElem?_append_left (by omega), rowC, rowC, List.getElem?_map, List.getElem?_map, List.getElem?_range hq, List.getElem?_range (by rw [Nat.add_mul]; omega)]
  · rw [List.getElem?_append_right (by omega), hlen]
    by_cases hq2 : q < n * k + k
    · have h1 : q = n * k + (q - n * k) := by omega
      have h2 := rowC_get (n := n + 1) (k := k) (g := g) (i := n) (j := q - n * k) (by omega) (by omega)
      rw [← h1] at h2
      rw [h2, List.getElem?_map, List.getElem?_range (by omega)]; rfl
    · rw [List.getElem?_eq_none (by rw [rowC_len, Nat.add_mul]; omega), List.getElem?_eq_none (by simp; omega)]

theorem Tr.pushed {W w2 : World} {T : TA} {S : St} (h : Tr W T S) (k l : Int) (why : List Int) (a : Option Addr) (c : Nat) (v' : Value) (hm : S.m < 1000)
    (hw : Ints W a c why) (ha : Apart T.F a) (hown : w2.ownsRow 0 68 11 v' (S.m + 1) (rowC S.m 11 (enC T S) ++ enV k l a why.length c S.lv))
    (hU : Upd (fun b => T.ev.ownBlock = some b) W w2) (hv : ∀ b, v'.ownBlock = some b → T.ev.ownBlock = some b ∨ W.heap.size ≤ b) : Tr (w2.setCell ⟨T.bt, 5, none⟩ v') (T.put S.m v' a c) (S.more k l why) := by
  have hs : Upd (· = T.bt) w2 (w2.setCell ⟨T.bt, 5, none⟩ v') := Upd.set _ _ _ _ rfl
  have hlt := h.lt
  have hUU : Upd T.F W (w2.setCell ⟨T.bt, 5, none⟩ v') := (hU.mono (F' := T.F) (fun k h => .inr (.inr h))).trans (hs.mono (fun k h => .inl h))
  have hF : ∀ b, b < W.heap.size → (T.put S.m v' a c).F b → T.F b := by
    rintro b hb (h | h | h)
    · exact .inl h
    · exact .inr (.inl h)
    · rcases hv b h with h | h
      · exact .inr (.inr h)
      · omega
  have hge : ∀ b, v'.ownBlock = some b → b ≠ T.bt ∧ b ≠ T.ba := by
    intro b hb
    rcases hv b hb with h1 | h1
    · exact ⟨fun e => h.ne2 (by rw [h1, e]), fun e => h.ne3 (by rw [h1, e])⟩
    · have := h.atomLt
      exact ⟨by omega, by omega⟩
  refine { head := ?_, atoms := ?_, ents := ?_, vals := ?_, vars := ?_, whys := ?_, ne1 := h.ne1, ne2 := ?_, ne3 := ?_, ne4 := ?_, ent := ?_, few := h.few, fewE := ?_, pos := h.pos, lvl := h.lvl }
  · have h2 : w2.heap[T.bt]? = _ := (hU.block T.bt hlt h.ne2).trans h.head
    show (w2.setCell ⟨T.bt, 5, none⟩ v').heap[T.bt]? = some (.cells #[T.ms, .slice (some ⟨T.ba, 0, none⟩) S.n T.ca, T.mat, T.mof, .map (some T.mv), v', .int .i64 S.lv] _ (0, 0))
    simp [World.setCell, Array.getElem?_modify, h2]
  · refine ownsRow_upd (ownsRow_upd h.atoms hU (fun b hb e => h.ne3 ?_)) hs (fun b hb e => h.ne1 ?_)
    · rw [e]; have h1 : T.ba = b := by simpa [Value.ownBlock, TA.put] using hb
      rw [h1]
    · rw [← e]; have h1 : T.ba = b := by simpa [Value.ownBlock, TA.put] using hb
      rw [h1]
  · have e1 : rowC (S.m + 1) 11 (enC (T.put S.m v' a c) (S.more k l why)) = rowC S.m 11 (enC T S) ++ enV k l a why.length c S.lv := by
      rw [rowC_succ _ _ _ (by decide)]
      congr 1
      · refine rowC_congr fun i j hi hj => ?_
        have hne : i ≠ S.m := by omega
        unfold enC TA.put St.more
        simp [hne]
      · show List.map _ [0, 1, 2, 3, 4, 5, 6, 7, 8, 9, 10] = _
        simp [enC, TA.put, St.more, enV]
    show World.ownsRow _ 0 _ 11 v' (S.m + 1) (rowC (S.m + 1) 11 (enC (T.put S.m v' a c) (S.more k l why)))
    rw [e1]
    exact ownsRow_upd hown hs (fun b hb e => (hge b hb).1 e)
  · exact h.vals.upd hUU h.ne4
  · intro i hi
    obtain ⟨h1, h2, h3, h4, h5⟩ := h.vars i hi
    exact ⟨by show World.cell? _ ⟨T.vb i, 0, none⟩ = _; rw [hUU.cell h5 h4]; exact h1, h2, h3, fun e => h4 (hF _ h5 e), Nat.lt_of_lt_of_le h5 hUU.size⟩
  · intro i hi
    have hi' : i < S.m + 1 := hi
    by_cases hne : i = S.m
    · subst hne
      have e1 : (T.put S.m v' a c).wa S.m = a := by simp [TA.put]
      have e2 : (T.put S.m v' a c).wc S.m = c := by simp [TA.put]
      have e3 : ((S.more k l why).e S.m).why = why := by simp [St.more]
      rw [e1, e2, e3]
      refine ⟨hw.upd hUU ha, ?_⟩
      by_cases hl : why = []
      · exact .inl hl
      · exact .inr fun p hp e => ha p hp (hF _ (hw.lt hl p hp) e)
    · have e1 : (T.put S.m v' a c).wa i = T.wa i := by simp [TA.put, hne]
      have e2 : (T.put S.m v' a c).wc i = T.wc i := by simp [TA.put, hne]
      have e3 : (S.more k l why).e i = S.e i := by simp [St.more, hne]
      rw [e1, e2, e3]
      obtain ⟨h1, h2⟩ := h.whys i (by omega)
      refine ⟨h1.upd' hUU (fun hl => h2.resolve_left hl), ?_⟩
      by_cases hl : (S.e i).why = []
      · exact .inl hl
      · exact .inr fun p hp e => h2.resolve_left hl p hp (hF _ (h1.lt hl p hp) e)
  · exact fun e => (hge _ e).1 rfl
  · exact fun e => (hge _ e).2 rfl
  · exact fun e => h.ne4 (hF _ h.vals.lt e)
  · intro i hi
    rcases h.ent i hi with h1 | ⟨h1, h2⟩
    · exact .inl h1
    · by_cases h0 : S.ent i = 0
      · exact .inl h0
      right
      refine ⟨by show S.ent i ≤ S.m + 1; omega, ?_⟩
      show ((S.more k l why).e (S.ent i - 1)).lit.natAbs = i + 1
      have e3 : (S.more k l why).e (S.ent i - 1) = S.e (S.ent i - 1) := by simp [St.more, show S.ent i - 1 ≠ S.m by omega]
      rw [e3]; exact h2
  · show S.m + 1 ≤ 1000
    omega

theorem Tr.marked {w : World} {T : TA} {S : St} (h : Tr w T S) (i j : Nat) (hi : i < S.n) (hj : j = 0 ∨ (j ≤ S.m ∧ (S.e (j - 1)).lit.natAbs = i + 1)) : Tr (w.setCell ⟨T.ba, i * 10 + 8, none⟩ (.int .i64 (j : Nat))) T (S.mark i j) := by
  have hs : Upd (· = T.ba) w (w.setCell ⟨T.ba, i * 10 + 8, none⟩ (.int .i64 (j : Nat))) := Upd.set _ _ _ _ rfl
  have hF : ∀ k, k = T.ba → T.F k := fun k e => .inr (.inl e)
  refine { head := ?_, atoms := ?_, ents := ?_, vals := ?_, vars := ?_, whys := ?_, ne1 := h.ne1, ne2 := h.ne2, ne3 := h.ne3, ne4 := h.ne4, ent := ?_, few := h.few, fewE := h.fewE, pos := h.pos, lvl := h.lvl }
  · exact (hs.block T.bt h.lt h.ne1).trans h.head
  · have := ownsRow_set h.atoms (i * 10 + 8) (.int .i64 (j : Nat))
    have e1 : (rowC S.n 10 (atC T S)).set (i * 10 + 8) (.int .i64 (j : Nat)) = rowC S.n 10 (atC T (S.mark i j)) := by
      apply List.ext_getElem?
      intro q
      by_cases hq : q < S.n * 10
      · have hq1 : q = (q / 10) * 10 + q % 10 := by omega
        have hq2 : q / 10 < S.n := by omega
        have hq3 : q % 10 < 10 := by omega
        rw [hq1, List.getElem?_set, rowC_get hq2 hq3]
        split
        · rename_i he
          have h1 : i = q / 10 := by omega
          have h2 : q % 10 = 8 := by omega
          rw [if_pos (by rw [rowC_len]; omega), h2]
          have := rowC_get (n := S.n) (k := 10) (g := atC T (S.mark i j)) hq2 (j := 8) (by omega)
          show _ = (rowC S.n 10 (atC T (S.mark i j)))[q / 10 * 10 + 8]?
          rw [this, ← h1]
          simp [atC, St.mark]
        · rename_i he
          rw [rowC_get hq2 hq3]
          unfold atC St.mark
          split <;> try rfl
          rename_i h8
          have : q / 10 ≠ i := by intro e; omega
          simp [this]
      · rw [List.getElem?_eq_none (by simp [rowC_len]; omega), List.getElem?_eq_none (by rw [rowC_len]; show S.n * 10 ≤ q; omega)]
    rw [e1] at this
    exact this
  · exact ownsRow_upd h.ents hs (fun b hb e => h.ne3 (by rw [← e]; exact hb))
  · exact h.vals.upd hs (fun e => h.ne4 (hF _ e))
  · intro x hx
    obtain ⟨h1, h2, h3, h4, h5⟩ := h.vars x hx
    exact ⟨by rw [hs.cell h5 (fun e => h4 (hF _ e))]; exact h1, h2, h3, h4, Nat.lt_of_lt_of_le h5 hs.size⟩
  · intro x hx
    obtain ⟨h1, h2⟩ := h.whys x hx
    exact ⟨h1.upd' hs (fun hl p hp e => h2.resolve_left hl p hp (hF _ e)), h2⟩
  · intro x hx
    by_cases hxi : x = i
    · subst hxi
      have e : (S.mark x j).ent x = j := by simp [St.mark]
      rw [e]; exact hj
    · have e : (S.mark i j).ent x = S.ent x := by simp [St.mark, hxi]
      rw [e]; exact h.ent x hx

theorem size_ret (w : World) (k : Int) (hk : I64 k) (i : Nat) (hi : k.natAbs = i + 1) : Calls Tryz.prog 60 #[.int .i64 k] w (Ret w fun v _ => v = .int .u64 ((i : Int) + 1)) :=
  (size_any w k hk).mono fun e w' ⟨v, he, hw, hv⟩ => ⟨v, he, by rw [← hw]; exact Below.refl _ _, by rw [hv, hi]; simp⟩

set_option maxRecDepth 100000 in
set_option maxHeartbeats 1000000 in
theorem put_any {w : World} {T : TA} {S : St} (h : Tr w T S) (k l : Int) (why : List Int) (a : Option Addr) (c : Nat) (hk : (k != 3) = true) (hl : I64 l) (hs : S.is l = true) (hm : S.m < 1000)
    (hw : Ints w a c why) (ha : Apart T.F a) :
    Calls Tryz.prog 68 #[.pointer (some ⟨T.bt, 0, none⟩), .agg #[.int .i64 k, .int .i64 l, .slice a why.length c, .int .i64 0, .int .i64 0, .bool false, .bool false, .slice none 0 0, .slice none 0 0, .int .i64 0, .int .i64 0]] w
      fun e w' => e = .returned (.tuple #[]) ∧ Upd T.F w w' ∧ ∃ ev, Tr w' (T.put S.m ev a c) (S.put k l why) ∧ ∀ b, ev.ownBlock = some b → T.ev.ownBlock = some b ∨ w.heap.size ≤ b := by
  obtain ⟨i, hi, hin⟩ : ∃ i, l.natAbs = i + 1 ∧ i < S.n := by
    simp only [St.is, Bool.and_eq_true, decide_eq_true_eq] at hs
    exact ⟨l.natAbs - 1, by omega, by omega⟩
  obtain ⟨c1, c4, c5, c6⟩ := h.cells
  have hlt := h.lt
  go_enter Tryz.func68, Tryz.ntmps68
  go_wp2_with fail
  obtain ⟨W, hW⟩ : ∃ W, (w.alloc (.cells #[.int .i64 k, .int .i64 l, .slice a why.length c, .int .i64 0, .int .i64 0, .bool false, .bool false, .slice none 0 0, .slice none 0 0, .int .i64 0, .int .i64 S.lv] 68)) = W := ⟨_, rfl⟩
  have hc0_0 : W.cell? ⟨w.heap.size, 0, none⟩ = some (.int .i64 k) := by rw [← hW]; simp [go_sem]
  have hc0_1 : W.cell? ⟨w.heap.size, 1, none⟩ = some (.int .i64 l) := by rw [← hW]; simp [go_sem]
  have hc0_2 : W.cell? ⟨w.heap.size, 2, none⟩ = some (.slice a why.length c) := by rw [← hW]; simp [go_sem]
  have hc0_3 : W.cell? ⟨w.heap.size, 3, none⟩ = some (.int .i64 0) := by rw [← hW]; simp [go_sem]
  have hc0_4 : W.cell? ⟨w.heap.size, 4, none⟩ = some (.int .i64 0) := by rw [← hW]; simp [go_sem]
  have hc0_5 : W.cell? ⟨w.heap.size, 5, none⟩ = some (.bool false) := by rw [← hW]; simp [go_sem]
  have hc0_6 : W.cell? ⟨w.heap.size, 6, none⟩ = some (.bool false) := by rw [← hW]; simp [go_sem]
  have hc0_7 : W.cell? ⟨w.heap.size, 7, none⟩ = some (.slice none 0 0) := by rw [← hW]; simp [go_sem]
  have hc0_8 : W.cell? ⟨w.heap.size, 8, none⟩ = some (.slice none 0 0) := by rw [← hW]; simp [go_sem]
  have hc0_9 : W.cell? ⟨w.heap.size, 9, none⟩ = some (.int .i64 0) := by rw [← hW]; simp [go_sem]
  have hc0_10 : W.cell? ⟨w.heap.size, 10, none⟩ = some (.int .i64 S.lv) := by rw [← hW]; simp [go_sem]
  have hf0 : ∀ o, W.frozen? ⟨w.heap.size, o, none⟩ = false := by intro o; rw [← hW]; simp [go_sem]
  have hz0 : w.heap.size < W.heap.size := by rw [← hW]; simp <;> omega
  have hn0 : w.heap.size ≠ W.heap.size := Nat.ne_of_lt hz0
  have hBW : Below w.heap.size w W := by rw [← hW]; exact (Below.refl w.heap.size w).alloc (Nat.le_refl _) (.cells #[.int .i64 k, .int .i64 l, .slice a why.length c, .int .i64 0, .int .i64 0, .bool false, .bool false, .slice none 0 0, .slice none 0 0, .int .i64 0, .int .i64 S.lv] 68)
  rw [hW]
  clear hW
  have hT := h.mono hBW
  have hwW := hw.mono hBW
  obtain ⟨c1, c4, c5, c6⟩ := hT.cells
  have hltW := hT.lt
  have hTW := Lib.hid hT
  -- the append's own world
  have hB1 : Below W.heap.size W (W.drew.alloc (.cells #[.int .i64 k, .int .i64 l, .slice a why.length c, .int .i64 0, .int .i64 0, .bool false, .bool false, .slice none 0 0, .slice none 0 0, .int .i64 0, .int .i64 S.lv] 68)) := ((Below.refl _ _).drew).alloc (Nat.le_refl _) _
  obtain ⟨i0, hi1, hi2, hi3, hi4⟩ : ∃ i, (Tryz.prog).info? 68 = some i ∧ i.zero = some (.agg #[.int .i64 0, .int .i64 0, .slice none 0 0, .int .i64 0, .int .i64 0, .bool false, .bool false, .slice none 0 0, .slice none 0 0, .int .i64 0, .int .i64 0]) ∧ i.size = 11 ∧ i.bytes = 136 := ⟨_, rfl, by kernel_rfl, by kernel_rfl, by kernel_rfl⟩
  obtain ⟨v', w2, hrun, hown, hgr, _, hblk⟩ := run_append_own_at (P := Tryz.prog) (W.drew.alloc (.cells #[.int .i64 k, .int .i64 l, .slice a why.length c, .int .i64 0, .int .i64 0, .bool false, .bool false, .slice none 0 0, .slice none 0 0, .int .i64 0, .int .i64 S.lv] 68)) 0 64 64 68 i0 _ 11 136 Tryz.underlying64 hi1 hi2 hi3 hi4 rfl (by decide)
    T.ev S.m _ (hTW.out.mono hB1).ents ⟨W.heap.size, 0, none⟩ 1 1 (enV k l a why.length c S.lv) rfl (fun j u hj => news_cells W.drew (enV k l a why.length c S.lv) _ j u hj) (enV_one _ _ _ _ _ _) (by unfold maxLen; have := h.fewE; omega) (by have := h.fewE; omega) (by simp)
  obtain ⟨be, ce, rfl⟩ : ∃ be ce, v' = .slice (some ⟨be, 0, none⟩) (S.m + 1) ce := by
    rcases hown.2 with ⟨_, h0⟩ | ⟨g, cap, cur, hv, _⟩
    · omega
    · exact ⟨g, cap, hv⟩
  have HR := Lib.hid hrun
  have hgr' : Upd (fun b => T.ev.ownBlock = some b) W w2 := Upd.trans (.of hB1) (.grown hgr (fun k hk => hk))
  have hv' : ∀ b, (Value.slice (some ⟨be, 0, none⟩) (S.m + 1) ce).ownBlock = some b → T.ev.ownBlock = some b ∨ W.heap.size ≤ b := by
    intro b hb
    rcases hblk with h | h
    · exact .inl (h ▸ hb)
    · rw [h] at hb; injection hb with hb; simp at hb; exact .inr (by omega)
  have hx5 : w2.cell? ⟨T.bt, 5, none⟩ = some T.ev := (hgr'.cell hltW hTW.out.ne2 5).trans c5
  have hf5 : w2.frozen? ⟨T.bt, 5, none⟩ = false := (hgr'.frozen hltW hTW.out.ne2 5).trans (hTW.out.frozen 5)
  have HG := Lib.hid hgr'
  have HO := Lib.hid hown
  have HV := Lib.hid hv'
  clear hrun hgr' hv' hgr hblk hown hB1
  refine' Code.wp_mono (Q := AtEnd ?A ?Z) ?post ?reg
  case reg =>
    go_region_law (refine step_append_by rfl _ _ 64 rfl _ _ _ _ rfl rfl HR.out ?_)
    all_goals exact AtEnd.mk
  intro e a' w' hend
  obtain ⟨rfl, rfl, rfl⟩ := hend.is

  obtain ⟨W3, hW3⟩ : ∃ W3, w2.setCell ⟨T.bt, 5, none⟩ (.slice (some ⟨be, 0, none⟩) (S.m + 1) ce) = W3 := ⟨_, rfl⟩
  have hT3 := hTW.out.pushed k l why a c _ hm hwW ha HO.out HG.out HV.out
  have hU3 : Upd T.F W W3 := by rw [← hW3]; exact (HG.out.mono (F' := T.F) (fun k h => .inr (.inr h))).trans ((Upd.set w2 T.bt 5 _ (F := (· = T.bt)) rfl).mono (fun k h => .inl h))
  have hnF : ¬ T.F w.heap.size := by
    rintro (h1 | h1 | h1)
    · omega
    · have := h.atomLt; omega
    · have := (h.ents.lt _ h1).2; omega
  rw [hW3] at hT3 ⊢
  clear hW3
  have hb0 : W3.cell? ⟨w.heap.size, 0, none⟩ = some (.int .i64 k) := (hU3.cell hz0 hnF 0).trans hc0_0
  have hb1 : W3.cell? ⟨w.heap.size, 1, none⟩ = some (.int .i64 l) := (hU3.cell hz0 hnF 1).trans hc0_1
  obtain ⟨d1, d4, d5, d6⟩ := hT3.cells
  have d1' : W3.cell? ⟨T.bt, 1, none⟩ = some (.slice (some ⟨T.ba, 0, none⟩) S.n T.ca) := d1
  have d5' : W3.cell? ⟨T.bt, 5, none⟩ = some (.slice (some ⟨be, 0, none⟩) (S.m + 1) ce) := d5
  have hf8 : W3.frozen? ⟨T.ba, i * 10 + 8, none⟩ = false := hT3.atomF _
  have h8 : W3.cell? ⟨T.ba, i * 10 + 8, none⟩ = some (.int .i64 (S.ent i : Nat)) := hT3.atom (i := i) (j := 8) hin (by omega)
  have hwr : IntKind.u64.wrap (i : Int) = (i : Int) := wrap_fits (by omega) (by have := h.few; omega)
  have hil : (i : Int) < (S.n : Int) := by omega
  have hz3 : w.heap.size < W3.heap.size := Nat.lt_of_lt_of_le hz0 hU3.size
  have hlt3 : T.bt < W3.heap.size := hT3.lt
  have hat3 : T.ba < W3.heap.size := hT3.atomLt
  have hne1 : T.bt ≠ T.ba := h.ne1
  have hne2 : w.heap.size ≠ T.ba := fun e => hnF (.inr (.inl e))
  have HT3 := Lib.hid hT3
  have HU3 := Lib.hid hU3
  have HL := Lib.hid hl
  have HI := Lib.hid hi
  have HT := Lib.hid h
  have hfew := h.few
  have hfewE := h.fewE
  clear hT3 hU3 d1 d4 d5 d6 hx5 hf5 HG HO HR hltW hT hTW hl hi h hs hw hwW ha c1 c4 c5 c6 hi1 hi2 hi3 hi4 hf0
  go_wp2_with fail
  refine region_start (BelowB (T.ba) W3) 16 #[false, false, false, false, false, false, false, false, false, false, false, false, false, false, false, false] (by kernel_rfl) rfl rfl (BelowB.of (Below.refl _ _).drew) (fun hS => ?_)
  have hA : Below W3.heap.size W3 W3.drew := (Below.refl _ _).drew
  refine' take_run 0 15 (some 22) #[true, false, false, false, false, false, false, false, false, false, false, false, false, false, false, false] (v := _) rfl rfl rfl (by kernel_rfl) (by kernel_rfl) (by kernel_rfl) (fun _ _ _ h => h) rfl hS (fun wz hz => ?y0) ?r0
  case y0 => (go_simp; try with_reducible rfl)
  try simp only [Act.put, List.setIfInBounds_toArray, List.set_cons_zero, List.set_cons_succ]
  refine' take_run 1 14 (some 23) #[true, true, false, false, false, false, false, false, false, false, false, false, false, false, false, false] (v := _) rfl rfl rfl (by kernel_rfl) (by kernel_rfl) (by kernel_rfl) (fun _ _ _ h => h) rfl hS (fun wz hz => ?y1) ?r1
  case y1 => (go_simp; try with_reducible rfl)
  try simp only [Act.put, List.setIfInBounds_toArray, List.set_cons_zero, List.set_cons_succ]
  refine' take_run 2 13 (some 24) #[true, true, true, false, false, false, false, false, false, false, false, false, false, false, false, false] (v := _) rfl rfl rfl (by kernel_rfl) (by kernel_rfl) (by kernel_rfl) (fun _ _ _ h => h) rfl hS (fun wz hz => ?y2) ?r2
  case y2 => (go_simp; try with_reducible rfl)
  try simp only [Act.put, List.setIfInBounds_toArray, List.set_cons_zero, List.set_cons_succ]
  refine' take_run 3 12 (some 25) #[true, true, true, true, false, false, false, false, false, false, false, false, false, false, false, false] (v := _) rfl rfl rfl (by kernel_rfl) (by kernel_rfl) (by kernel_rfl) (fun _ _ _ h => h) rfl hS (fun wz hz => ?y3) ?r3
  case y3 => (have hzc := hz.cell; go_simp; try with_reducible rfl)
  try simp only [Act.put, List.setIfInBounds_toArray, List.set_cons_zero, List.set_cons_succ]
  refine' take_run 4 11 (some 26) #[true, true, true, true, true, false, false, false, false, false, false, false, false, false, false, false] (v := _) rfl rfl rfl (by kernel_rfl) (by kernel_rfl) (by kernel_rfl) (fun _ _ _ h => h) rfl hS (fun wz hz => ?y4) ?r4
  case y4 => (go_simp; try with_reducible rfl)
  try simp only [Act.put, List.setIfInBounds_toArray, List.set_cons_zero, List.set_cons_succ]
  refine' take_run 5 10 (some 27) #[true, true, true, true, true, true, false, false, false, false, false, false, false, false, false, false] (v := _) rfl rfl rfl (by kernel_rfl) (by kernel_rfl) (by kernel_rfl) (fun _ _ _ h => h) rfl hS (fun wz hz => ?y5) ?r5
  case y5 => (have hzc := hz.cell; go_simp; try with_reducible rfl)
  try simp only [Act.put, List.setIfInBounds_toArray, List.set_cons_zero, List.set_cons_succ]
  refine' take_run 8 9 (some 30) #[true, true, true, true, true, true, false, false, true, false, false, false, false, false, false, false] (v := _) rfl rfl rfl (by kernel_rfl) (by kernel_rfl) (by kernel_rfl) (fun _ _ _ h => h) rfl hS (fun wz hz => ?y6) ?r6
  case y6 => (go_simp; try with_reducible rfl)
  try simp only [Act.put, List.setIfInBounds_toArray, List.set_cons_zero, List.set_cons_succ]
  refine' take_run 9 8 (some 31) #[true, true, true, true, true, true, false, false, true, true, false, false, false, false, false, false] (v := _) rfl rfl rfl (by kernel_rfl) (by kernel_rfl) (by kernel_rfl) (fun _ _ _ h => h) rfl hS (fun wz hz => ?y7) ?r7
  case y7 => (go_simp; try with_reducible rfl)
  try simp only [Act.put, List.setIfInBounds_toArray, List.set_cons_zero, List.set_cons_succ]
  refine' take_run 10 7 (some 32) #[true, true, true, true, true, true, false, false, true, true, true, false, false, false, false, false] (v := _) rfl rfl rfl (by kernel_rfl) (by kernel_rfl) (by kernel_rfl) (fun _ _ _ h => h) rfl hS (fun wz hz => ?y8) ?r8
  case y8 => (go_simp; try with_reducible rfl)
  try simp only [Act.put, List.setIfInBounds_toArray, List.set_cons_zero, List.set_cons_succ]
  refine' take_run 11 6 (some 33) #[true, true, true, true, true, true, false, false, true, true, true, true, false, false, false, false] (v := _) rfl rfl rfl (by kernel_rfl) (by kernel_rfl) (by kernel_rfl) (fun _ _ _ h => h) rfl hS (fun wz hz => ?y9) ?r9
  case y9 => (have hzc := hz.cell; go_simp; try with_reducible rfl)
  try simp only [Act.put, List.setIfInBounds_toArray, List.set_cons_zero, List.set_cons_succ]
  refine' take_run 12 5 (some 34) #[true, true, true, true, true, true, false, false, true, true, true, true, true, false, false, false] (v := _) rfl rfl rfl (by kernel_rfl) (by kernel_rfl) (by kernel_rfl) (fun _ _ _ h => h) rfl hS (fun wz hz => ?y10) ?r10
  case y10 => (go_simp; try with_reducible rfl)
  try simp only [Act.put, List.setIfInBounds_toArray, List.set_cons_zero, List.set_cons_succ]
  refine step_call 6 4 (some 28) #[true, true, true, true, true, true, true, false, true, true, true, true, true, false, false, false] 60 [.int .i64 l] rfl rfl rfl (by kernel_rfl) rfl rfl rfl Tryz.func60 rfl (by kernel_rfl) (size_ret _ l HL.out i HI.out) ?_
  rintro v w' hb rfl
  replace hS := hS.trans hb
  replace hA := hA.trans (hb.mono hA.size)
  refine ⟨hS, ?_⟩
  try simp only [Act.put, List.setIfInBounds_toArray, List.set_cons_zero, List.set_cons_succ]
  refine' take_run 7 3 (some 29) #[true, true, true, true, true, true, true, true, true, true, true, true, true, false, false, false] (v := _) rfl rfl rfl (by kernel_rfl) (by kernel_rfl) (by kernel_rfl) (fun _ _ _ h => h) rfl hS (fun wz hz => ?y11) ?r11
  case y11 => (go_simp; try with_reducible rfl)
  try simp only [Act.put, List.setIfInBounds_toArray, List.set_cons_zero, List.set_cons_succ]
  refine' take_run 13 2 (some 35) #[true, true, true, true, true, true, true, true, true, true, true, true, true, true, false, false] (v := _) rfl rfl rfl (by kernel_rfl) (by kernel_rfl) (by kernel_rfl) (fun _ _ _ h => h) rfl hS (fun wz hz => ?y12) ?r12
  case y12 => (go_simp; try with_reducible rfl)
  try simp only [Act.put, List.setIfInBounds_toArray, List.set_cons_zero, List.set_cons_succ]
  refine' take_run 14 1 (some 36) #[true, true, true, true, true, true, true, true, true, true, true, true, true, true, true, false] (v := _) rfl rfl rfl (by kernel_rfl) (by kernel_rfl) (by kernel_rfl) (fun _ _ _ h => h) rfl hS (fun wz hz => ?y13) ?r13
  case y13 => (go_simp; try with_reducible rfl)
  try simp only [Act.put, List.setIfInBounds_toArray, List.set_cons_zero, List.set_cons_succ]
  refine step_only 15 0 #[true, true, true, true, true, true, true, true, true, true, true, true, true, true, true, true] rfl rfl (by kernel_rfl) rfl (fun K hK => ?_)
  have hAc := bcell hA
  go_simp
  refine hK _ _ (by repeat (first | exact hS | refine BelowB.set ?_ _ _)) ?_
  clear hK K hAc
  try simp only [Act.put, List.setIfInBounds_toArray, List.set_cons_zero, List.set_cons_succ]
  refine wpAnyH_done (by kernel_rfl) ?_ _
  go_wp2_with fail
  refine bodyPost_ret (v := .tuple #[]) (by simp [results, Tryz.results68, go_sem]) rfl ?_
  have hTm := (HT3.out.mono hA).marked i (S.m + 1) hin (.inr ⟨Nat.le_refl _, by
    show ((S.more k l why).e S.m).lit.natAbs = i + 1
    simp only [St.more, if_true]; exact HI.out⟩)
  have hci : (((S.m + 1 : Nat) : Int)) = (S.m : Int) + 1 := by simp
  rw [hci] at hTm
  refine ⟨rfl, ?_, (Value.slice (some ⟨be, 0, none⟩) (S.m + 1) ce), ?_, fun b hb => ?_⟩
  · exact Upd.trans (.of hBW) (Upd.trans' (HU3.out.trans (.of hA)) (Upd.set (F := (· = T.ba)) w' T.ba _ _ rfl) (fun k hk => .inl (.inr (.inl hk))) |>.mono (fun _ h => h))
  · have e1 : S.put k l why = (S.more k l why).mark i (S.m + 1) := by
      show (S.more k l why).mark (l.natAbs - 1) (S.m + 1) = _
      rw [HI.out]; rfl
    rw [e1]
    exact hTm
  · rcases HV.out b hb with h | h
    · exact .inl h
    · exact .inr (by omega)
end Go.Proofs.YtodeddappmfphaaGreatDoor
