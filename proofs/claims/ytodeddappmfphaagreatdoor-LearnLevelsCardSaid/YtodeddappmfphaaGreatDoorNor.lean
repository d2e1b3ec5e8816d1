/- Compact of a few; clause.Norm of at most two. -/
import Derived.Test.YtodeddappmfphaaGreatDoorSrt
namespace Go.Proofs.YtodeddappmfphaaGreatDoor
open Go.RowKit Go.Thd

theorem Upd.setCells (b : Nat) : ∀ (vs : List Value) (o : Nat) (w : World), Upd (· = b) w (w.setCells b o vs)
  | [], _, w => Upd.refl _ w
  | v :: r, o, w => (Upd.set (F := (· = b)) w b o v rfl).trans (Upd.setCells b r (o + 1) _)

theorem compact_cells (w : World) (b c : Nat) (l : List Int) (hn : l.length ≤ 1000) (hcap : l.length ≤ c) (hc : ∀ j, j < l.length → w.cell? ⟨b, j, none⟩ = some (.int .i64 (l.getD j 0))) (hf : ∀ o, w.frozen? ⟨b, o, none⟩ = false) :
    Calls Tryz.prog 135 #[.slice (some ⟨b, 0, none⟩) l.length c] w
      fun e w' => e = .returned (.slice (some ⟨b, 0, none⟩) (Lib.compact l).length c) ∧ Upd (· = b) w w' ∧ ((Lib.compact l).length ≤ l.length → ∀ j, j < (Lib.compact l).length → w'.cell? ⟨b, j, none⟩ = some (.int .i64 ((Lib.compact l).getD j 0))) := by
  have hc0 : ∀ j, j < l.length → w.cell? ⟨b, 0 + j, none⟩ = some (.int .i64 (l.getD j 0)) := fun j hj => by rw [Nat.zero_add]; exact hc j hj
  refine (Tryz.slices_Compact_int_cells b 0 l.length c l w (Nat.le_refl _) (by omega) hcap hc0 (fun j _ => by rw [Nat.zero_add]; exact hf j)).mono ?_
  rintro e w' ⟨rfl, q, rfl⟩
  rw [List.take_length]
  refine ⟨rfl, Upd.trans (.of ((Below.refl _ _).drewN q)) (Upd.setCells _ _ _ _), fun hle j hj => ?_⟩
  generalize Lib.compact l = m at *
  have hlen : ((m ++ List.replicate (l.length - m.length) 0).map (Value.int .i64)).length = l.length := by simp; omega
  have h1 := World.cell?_setCells_in b ((m ++ List.replicate (l.length - m.length) 0).map (Value.int .i64)) 0 (w.drewN q) (fun i hi => by
    rw [hlen] at hi
    show ((w.cell? ⟨b, 0 + i, none⟩)).isSome = true
    rw [hc0 i hi]; rfl) j (by rw [hlen]; omega)
  rw [Nat.zero_add] at h1
  rw [h1]
  simp [List.getD_eq_getElem?_getD, List.getElem_append_left hj, hj]

theorem compact_one (x : Int) : Lib.compact [x] = [x] := by
  simp [Lib.compact, Lib.compactUpTo, Lib.keeps, List.range_succ]
theorem compact_two (x y : Int) : Lib.compact [x, y] = if x = y then [x] else [x, y] := by
  by_cases h : x = y
  · subst h
    simp [Lib.compact, Lib.compactUpTo, Lib.keeps, List.range_succ]
  · simp [Lib.compact, Lib.compactUpTo, Lib.keeps, List.range_succ, h, Ne.symm h]

theorem OwnI.row {w : World} {v : Value} {l : List Int} (h : OwnI w v l) (hl : l ≠ []) : ∃ b c, v = .slice (some ⟨b, 0, none⟩) l.length c ∧ v.ownBlock = some b ∧ b < w.heap.size ∧ l.length ≤ c ∧ (∀ j, j < l.length → w.cell? ⟨b, j, none⟩ = some (.int .i64 (l.getD j 0))) ∧ ∀ o, w.frozen? ⟨b, o, none⟩ = false := by
  obtain ⟨a, c, rfl, hi, hcase⟩ := h.slice
  obtain ⟨b, off, rfl, hlt, hc⟩ := hi.2.resolve_left hl
  rcases hcase with ⟨h1, _⟩ | ⟨b', hb', ho, _⟩
  · cases h1
  injection hb' with hb'
  injection hb' with e1 e2
  subst e1; subst e2
  refine ⟨b, c, rfl, rfl, hlt, hi.1, fun j hj => by have := hc j hj; rwa [Nat.zero_add] at this, fun o => ?_⟩
  rcases h.2 with ⟨h0, _⟩ | ⟨g, cap, cur, hv, _, hg, _⟩
  · cases h0
  · cases hv
    simp [World.frozen?, hg]

theorem size_q0 (w : World) (k : Int) (hk : I64 k) (i : Nat) (hi : k.natAbs = i + 1) : Calls Tryz.prog 60 #[.int .i64 k] w fun e w' => e = .returned (.int .u64 ((i : Int) + 1)) ∧ ∃ m, w' = w.drewN m :=
  (size_any w k hk).mono fun e w' ⟨v, he, hw, hv⟩ => ⟨by rw [he, hv, hi]; simp, 0, by rw [← hw]; rfl⟩

set_option maxRecDepth 100000 in
theorem norm_one {w : World} (a : Option Addr) (c : Nat) (x : Int) (hl : Ints w a c [x]) (hx : x ≠ 0) :
    Calls Tryz.prog 82 #[.slice a 1 c] w (Ret w fun v w' => ∃ b c, v = .tuple #[.slice (some ⟨b, 0, none⟩) 1 c, .bool false] ∧ 1 ≤ c ∧ w.heap.size ≤ b ∧ b < w'.heap.size ∧ w'.cell? ⟨b, 0, none⟩ = some (.int .i64 x)) := by
  have HC := Lib.hid (clone_ints w a c [x] hl (by simp))
  have hx0 : (x == 0) = false := by simpa using hx
  clear hl hx
  go_enter Tryz.func82, Tryz.ntmps82
  go_wp2_with fail
  refine HC.out.mono ?_
  rintro e w1 ⟨v, rfl, hb, hO, hF⟩
  obtain ⟨b, c', rfl, hob, hlt, hcc, hcells, hfz⟩ := OwnI.row hO (by simp)
  have hbb := hF b hob
  have HB := Lib.hid hb
  clear hb hO hF hob HC
  go_wp2_with fail
  refine (sort_few w1 (some ⟨b, 0, none⟩) 1 c' (by omega)).mono ?_
  rintro e w2 ⟨v, rfl, rfl, rfl⟩
  go_wp2_with fail
  refine (compact_cells w1 b c' [x] (by simp) hcc hcells hfz).mono ?_
  rintro e w3 ⟨rfl, hU, hk⟩
  rw [compact_one] at hk ⊢
  have k0 : w3.cell? ⟨b, 0, none⟩ = some (.int .i64 x) := hk (by simp) 0 (by simp)
  have HB3 : Hid (Below w.heap.size w w3) := HB.out.trans (hU.below (fun k hk e => by omega) HB.out.size)
  have hlt3 : b < w3.heap.size := Nat.lt_of_lt_of_le hlt hU.size
  clear hk hU hcells hfz HB hlt
  go_wp2_with fail
  refine wp_loop_rounds 2 ?_
  rw [rounds_succ]
  go_wp2_with fail
  go_quiet (fail)
  go_wp2_with fail
  rw [rounds_succ]
  go_wp2_with fail
  go_ret2
  exact ⟨_, rfl, HB3.out.drewN _, b, c', rfl, hcc, hbb, hlt3, k0⟩

set_option maxRecDepth 100000 in
set_option maxHeartbeats 400000 in
theorem norm_two {w : World} (a : Option Addr) (c : Nat) (x y : Int) (hl : Ints w a c [x, y]) (hx : x ≠ 0) (hy : y ≠ 0) (hxI : I64 x) (hyI : I64 y) :
    Calls Tryz.prog 82 #[.slice a 2 c] w (Ret w fun v w' =>
      if x = y then ∃ b c, v = .tuple #[.slice (some ⟨b, 0, none⟩) 1 c, .bool false] ∧ 1 ≤ c ∧ w.heap.size ≤ b ∧ b < w'.heap.size ∧ w'.cell? ⟨b, 0, none⟩ = some (.int .i64 x)
      else if x.natAbs = y.natAbs then v = .tuple #[.slice none 0 0, .bool true]
      else ∃ b c, v = .tuple #[.slice (some ⟨b, 0, none⟩) 2 c, .bool false] ∧ 2 ≤ c ∧ w.heap.size ≤ b ∧ b < w'.heap.size ∧ w'.cell? ⟨b, 0, none⟩ = some (.int .i64 (sort2 x y).1) ∧ w'.cell? ⟨b, 1, none⟩ = some (.int .i64 (sort2 x y).2)) := by
  have HC := Lib.hid (clone_ints w a c [x, y] hl (by simp))
  have HXI := Lib.hid hxI
  have HYI := Lib.hid hyI
  obtain ⟨p, q, hpq, hp0, hq0, hpI, hqI, hsame, habs, hpx⟩ : ∃ p q, sort2 x y = (p, q) ∧ p ≠ 0 ∧ q ≠ 0 ∧ I64 p ∧ I64 q ∧ ((p = q) ↔ (x = y)) ∧ ((p.natAbs = q.natAbs) ↔ x.natAbs = y.natAbs) ∧ (x = y → p = y) := by
    unfold sort2
    split
    · exact ⟨y, x, rfl, hy, hx, hyI, hxI, eq_comm, eq_comm, fun _ => rfl⟩
    · exact ⟨x, y, rfl, hx, hy, hxI, hyI, Iff.rfl, Iff.rfl, fun h => h⟩
  have HPQ := Lib.hid hpq
  have HS := Lib.hid hsame
  have HA := Lib.hid habs
  have HPX := Lib.hid hpx
  have hp0' : (p == 0) = false := by simpa using hp0
  have hq0' : (q == 0) = false := by simpa using hq0
  obtain ⟨i, hi⟩ : ∃ i, p.natAbs = i + 1 := ⟨p.natAbs - 1, by omega⟩
  obtain ⟨j, hj⟩ : ∃ j, q.natAbs = j + 1 := ⟨q.natAbs - 1, by omega⟩
  have HI := Lib.hid hi
  have HJ := Lib.hid hj
  have HPI := Lib.hid hpI
  have HQI := Lib.hid hqI
  have hij : (x.natAbs = y.natAbs) ↔ i = j := by rw [← habs]; omega
  have HIJ := Lib.hid hij
  clear hl hx hy hxI hyI hpq hsame habs hpx hp0 hq0 hi hj hpI hqI hij
  go_enter Tryz.func82, Tryz.ntmps82
  go_wp2_with fail
  refine HC.out.mono ?_
  rintro e w1 ⟨v, rfl, hb, hO, hF⟩
  obtain ⟨b, c', rfl, hob, hlt, hcc, hcells, hfz⟩ := OwnI.row hO (by simp)
  have hbb := hF b hob
  have hcc2 : 2 ≤ c' := hcc
  have HB := Lib.hid hb
  clear hb hO hF hob HC
  go_wp2_with fail
  refine (sort_two w1 b c' x y HXI.out HYI.out (hcells 0 (by simp)) (hcells 1 (by simp)) hfz).mono ?_
  rintro e w2 ⟨rfl, hU2, k0, k1, kf⟩
  rw [HPQ.out] at k0 k1
  have k0' : w2.cell? ⟨b, 0, none⟩ = some (.int .i64 p) := k0
  have k1' : w2.cell? ⟨b, 1, none⟩ = some (.int .i64 q) := k1
  clear hcells hfz k0 k1
  go_wp2_with fail
  refine (compact_cells w2 b c' [p, q] (by simp) hcc (fun j hj => by
    match j, hj with
    | 0, _ => exact k0'
    | 1, _ => exact k1') kf).mono ?_
  rintro e w3 ⟨rfl, hU, hk⟩
  have HB3 : Hid (Below w.heap.size w w3) := HB.out.trans ((hU2.trans hU).below (fun k hk e => by omega) HB.out.size)
  have hlt3 : b < w3.heap.size := Nat.lt_of_lt_of_le hlt (hU2.trans hU).size
  rw [compact_two] at hk ⊢
  clear hU hU2 HB hlt k0' k1' kf
  by_cases he : p = q
  · rw [if_pos he] at hk ⊢
    have k0 : w3.cell? ⟨b, 0, none⟩ = some (.int .i64 p) := hk (by simp) 0 (by simp)
    have hxy := HS.out.1 he
    have k0y : w3.cell? ⟨b, 0, none⟩ = some (.int .i64 y) := by rw [← HPX.out hxy]; exact k0
    clear hk
    go_wp2_with fail
    refine wp_loop_rounds 2 ?_
    rw [rounds_succ]
    go_wp2_with fail
    go_quiet (fail)
    go_wp2_with fail
    rw [rounds_succ]
    go_wp2_with fail
    go_ret2
    exact ⟨_, rfl, HB3.out.drewN _, b, c', rfl, by omega, hbb, hlt3, k0y⟩
  · have hxy : ¬ x = y := fun e => he (HS.out.2 e)
    rw [if_neg he] at hk ⊢
    have k0 : w3.cell? ⟨b, 0, none⟩ = some (.int .i64 p) := hk (by simp) 0 (by simp)
    have k1 : w3.cell? ⟨b, 1, none⟩ = some (.int .i64 q) := hk (by simp) 1 (by simp)
    clear hk
    by_cases hij : i = j
    · have hab := HIJ.out.2 hij
      subst hij
      go_wp2_with fail
      refine wp_loop_rounds 2 ?_
      rw [rounds_succ]
      go_wp2_with fail
      go_quiet (fail)
      go_wp2_with fail
      rw [rounds_succ]
      go_wp2_with fail
      go_quiet ((go_at_call 60; go_must (first | with_reducible exact Calls.quiet_more (size_q0 _ q HQI.out i HJ.out) | with_reducible exact Calls.quiet_more (size_q0 _ p HPI.out i HI.out))))
      go_wp2_with fail
      go_ret2
      exact ⟨_, rfl, HB3.out.drewN _, rfl⟩
    · have hab := mt HIJ.out.1 hij
      have hne : ((j : Int) + 1 == (i : Int) + 1) = false := by simp; omega
      go_wp2_with fail
      refine wp_loop_rounds 3 ?_
      rw [rounds_succ]
      go_wp2_with fail
      go_quiet (fail)
      go_wp2_with fail
      rw [rounds_succ]
      go_wp2_with fail
      go_quiet ((go_at_call 60; go_must (first | with_reducible exact Calls.quiet_more (size_q0 _ q HQI.out j HJ.out) | with_reducible exact Calls.quiet_more (size_q0 _ p HPI.out i HI.out))))
      go_wp2_with fail
      rw [rounds_succ]
      go_wp2_with fail
      go_ret2
      exact ⟨_, rfl, HB3.out.drewN _, b, c', rfl, hcc2, hbb, hlt3, by rw [HPQ.out]; exact k0, by rw [HPQ.out]; exact k1⟩
end Go.Proofs.YtodeddappmfphaaGreatDoor
