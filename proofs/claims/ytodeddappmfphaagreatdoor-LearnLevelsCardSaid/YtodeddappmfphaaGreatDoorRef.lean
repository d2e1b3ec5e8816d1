/- theodoliteref1's trim, cmp: numbers as limbs. -/
import Derived.Test.YtodeddappmfphaaGreatDoorNatB
import Derived.Test.YtodeddappmfphaaGreatDoorLst
namespace Go.Proofs.YtodeddappmfphaaGreatDoor
open Go.RowKit Go.Thd

/-- The limbs of a slice appended to an empty one that was just made. -/
theorem append_made {W : World} (b off n c : Nat) (f : Nat → Nat) (hc : ∀ i, i < n → W.cell? ⟨b, off + i, none⟩ = some (.int .u64 (f i : Nat))) (hn : n ≤ 1000000) :
    ∃ v' w', (Builtin.append_ #[42, 42] 42 #[.slice (some ⟨W.heap.size, 0, none⟩) 0 0, .slice (some ⟨b, off, none⟩) n c]).run Tryz.prog (W.alloc (.cells #[] 107)) = .ok v' w' ∧
      Below W.heap.size W w' ∧ ∃ g c', v' = .slice (some ⟨g, 0, none⟩) n c' ∧ n ≤ c' ∧ W.heap.size ≤ g ∧ g < w'.heap.size ∧ (∀ i, i < n → w'.cell? ⟨g, i, none⟩ = some (.int .u64 (f i : Nat))) ∧ ∀ o, w'.frozen? ⟨g, o, none⟩ = false := by
  have hB1 : Below W.heap.size W (W.alloc (.cells #[] 107)) := (Below.refl _ _).alloc (Nat.le_refl _) _
  obtain ⟨i0, hi1, hi2, hi3, hi4⟩ := info_parts info64
  have hnew : (W.alloc (.cells #[] 107)).heap[W.heap.size]? = some (.cells #[] 107 (0, 0)) := heap_alloc_new W (.cells #[] 107)
  obtain ⟨v', w', hrun, hown, hgr, hnil, hblk⟩ := run_append_own_at (P := Tryz.prog) (W.alloc (.cells #[] 107)) W.heap.size 42 42 107 i0 _ 1 8 Tryz.underlying42 hi1 hi2 hi3 hi4 rfl (by decide)
    (.slice (some ⟨W.heap.size, 0, none⟩) 0 0) 0 [] ⟨rfl, .inr ⟨W.heap.size, 0, #[], rfl, Nat.le_refl _, hnew, Nat.le_refl _, by simp [maxLen], rfl, rfl⟩⟩
    ⟨b, off, none⟩ n c ((List.range n).map fun i => Value.int .u64 (f i : Nat)) (by simp)
    (fun j u hj => by
      have hjn : j < n := by
        have := (List.getElem?_eq_some_iff.1 hj).1
        simpa using this
      have hu : u = .int .u64 (f j : Nat) := by
        rw [List.getElem?_map, List.getElem?_range hjn] at hj
        exact (Option.some.inj hj).symm
      have hadd : (⟨b, off, none⟩ : Addr).add j = ⟨b, off + j, none⟩ := by unfold Addr.add; split <;> simp_all
      rw [hadd, hu]
      exact (hB1.cell (p := ⟨b, off + j, none⟩) (World.block_lt_of_cell? W ⟨b, off + j, none⟩ (hc j hjn))).trans (hc j hjn))
    (by intro u hu; simp at hu; obtain ⟨i, _, rfl⟩ := hu; rfl) (by unfold maxLen; omega) (by omega) (by simp)
  have hB : Below W.heap.size W w' := hB1.trans ((Upd.grown (F := fun k => k = W.heap.size) hgr (fun k hk => by simpa [Value.ownBlock] using hk.symm)).below (fun k hk hF => by omega) hB1.size)
  rw [Nat.zero_add, List.nil_append] at hown
  obtain ⟨a, c', rfl, hle, h⟩ := ownsRow_cells hown
  rcases h with ⟨h0, _⟩ | ⟨g, rfl, h2, h3, h4, h5⟩
  · have := (hnil.1 h0).1
    cases this
  · exact ⟨_, w', hrun, hB, g, c', rfl, hle, h2, h3, h4, h5⟩

set_option maxRecDepth 100000 in
/-- trim, of limbs that are a number. -/
theorem rtrim_num (f : Nat → Nat) (w : World) (b off n cap : Nat) (hn : n ≤ 1000000) (hcap : n ≤ cap)
    (hc : ∀ i, i < n → w.cell? ⟨b, off + i, none⟩ = some (.int .u64 (f i : Nat))) (hf : ∀ i, i < n → f i < B64) (x : Nat) (hx : val f n = x) :
    Calls Tryz.prog 125 #[.slice (some ⟨b, off, none⟩) n cap] w (Ret w fun v w' => ∃ a c, v = .slice a (nl x) c ∧ Num w' a c x ∧ Fresh w a) := by
  have ht := tl_eq hf
  rw [hx] at ht
  have HX := Lib.hid hx
  have HF := Lib.hid hf
  have HC := Lib.hid hc
  have HT0 := Lib.hid ht
  clear hx hf ht hc
  go_enter Tryz.func125, Tryz.ntmps125
  go_wp2_with fail
  go_loop [3] (fun v => ∃ k : Nat, k ≤ n ∧ tl f k = tl f n ∧ v = .int .i64 (k : Int)) (fun v => (intOf v).toNat)
  case atStart => exact ⟨n, Nat.le_refl _, rfl, rfl⟩
  case round =>
    obtain ⟨k, hk, htl, rfl⟩ := hrel
    by_cases hcase : k = 0 ∨ f (k - 1) ≠ 0
    · have hk' : tl f k = k := by
        by_cases h0 : k = 0
        · subst h0; rfl
        · obtain ⟨j, rfl⟩ : ∃ j, k = j + 1 := ⟨k - 1, by omega⟩
          rw [tl, if_neg (by simpa using hcase.resolve_left h0)]
      have hkx : k = nl x := by rw [← hk', htl]; exact HT0.out
      have HK := Lib.hid hkx
      clear htl hk' hkx
      obtain ⟨v', w', hrun, hB, g, c', rfl, hle, h2, h3, h4, _⟩ := append_made (W := w) b off k cap f (fun i hi => HC.out i (by omega)) (by omega)
      have HR := Lib.hid hrun
      have HB := Lib.hid hB
      have hfin : Num w' (some ⟨g, 0, none⟩) c' x ∧ Fresh w (some ⟨g, 0, none⟩) := by
        have hkn := HK.out
        refine ⟨⟨by omega, .inr ⟨g, 0, rfl, h3, fun i hi => ?_⟩⟩, fun p hp => by injection hp with hp; subst hp; exact h2⟩
        rw [Nat.zero_add, h4 i (by omega), ← HX.out, dig_val HF.out (by omega)]
      have HFIN := Lib.hid hfin
      clear hrun hB hfin h4
      by_cases h0 : k = 0
      · subst h0
        go_wp2_with (at_builtin; go_must (refine wpList_append_by rfl _ _ 42 rfl _ _ _ _ rfl rfl HR.out ?_))
        go_ret
        exact ⟨_, rfl, HB.out, _, c', by rw [← HK.out]; rfl, HFIN.out.1, HFIN.out.2⟩
      · obtain ⟨j, rfl⟩ : ∃ j, k = j + 1 := ⟨k - 1, by omega⟩
        have hj := HC.out j (by omega)
        have hfj : ((f j : Int) == 0) = false := by
          have := hcase.resolve_left h0
          simp at this ⊢; omega
        clear hcase h0
        go_wp2_with (at_builtin; go_must (refine wpList_append_by rfl _ _ 42 rfl _ _ _ _ rfl rfl HR.out ?_))
        go_ret
        exact ⟨_, rfl, HB.out, _, c', by rw [← HK.out]; rfl, HFIN.out.1, HFIN.out.2⟩
    · obtain ⟨j, rfl⟩ : ∃ j, k = j + 1 := ⟨k - 1, by omega⟩
      have hj := HC.out j (by omega)
      have hf0 : f j = 0 := by
        have := not_or.1 hcase
        simpa using this.2
      have HTL : Hid (tl f j = tl f n) := by
        show _ = _
        rw [← htl, tl, if_pos hf0]
      rw [hf0] at hj
      clear hcase htl hf0
      go_wp2_with fail
      go_round
      case rel => exact ⟨j, by omega, HTL.out, by go_num⟩
      case measure => simp [intOf]

set_option maxRecDepth 100000 in
/-- trim of nothing. -/
theorem rtrim_nil (w : World) : Calls Tryz.prog 125 #[.slice none 0 0] w (Ret w fun v _ => ∃ a c, v = .slice a 0 c) := by
  go_enter Tryz.func125, Tryz.ntmps125
  go_wp2_with fail
  refine wp_loop_rounds 1 ?_
  rw [rounds_succ]
  go_wp2_with fail
  go_ret
  exact ⟨_, rfl, (Below.refl _ _).alloc (Nat.le_refl _) _, _, _, rfl⟩

theorem rcmp_len (w : World) (a a' : Option Addr) (n m c c' : Nat) (h : n ≠ m) :
    Calls Tryz.prog 146 #[.slice a n c, .slice a' m c'] w fun e w' => e = .returned (.int .i64 (cmpI n m)) ∧ ∃ nq, w' = w.drewN nq := by
  have hne : ((n : Int) != m) = true := by simp; omega
  by_cases hlt : (n : Int) < m
  · have hc : cmpI n m = -1 := by simp [cmpI, hlt]
    have HC := Lib.hid hc; clear hc
    go_enter Tryz.func146, Tryz.ntmps146
    go_wp2_with fail
    go_ret
    exact ⟨by rw [HC.out]; rfl, 0, rfl⟩
  · have hc : cmpI n m = 1 := by simp [cmpI, hlt]; omega
    have HC := Lib.hid hc; clear hc
    go_enter Tryz.func146, Tryz.ntmps146
    go_wp2_with fail
    go_ret
    exact ⟨by rw [HC.out]; rfl, 0, rfl⟩

theorem rcmp_same (w : World) (a a' : Option Addr) (n c c' : Nat) (f g : Nat → Nat) (hn : n ≤ 65536) (hf : U64s w a n f) (hg : U64s w a' n g) :
    Calls Tryz.prog 146 #[.slice a n c, .slice a' n c'] w fun e w' => e = .returned (.int .i64 (ordF f g n)) ∧ ∃ nq, w' = w.drewN nq := by
  go_enter Tryz.func146, Tryz.ntmps146
  go_wp2_with fail
  go_loopw [5] (fun v wr => ∃ k q : Nat, k ≤ n ∧ ordF f g k = ordF f g n ∧ v = .int .i64 ((k : Int) - 1) ∧ wr = w.drewN q) (fun v _ => (intOf v + 1).toNat)
  case atStart => exact ⟨n, 0, Nat.le_refl _, rfl, rfl, rfl⟩
  case round =>
    obtain ⟨k, q, hk, ho, rfl, rfl⟩ := hrel
    have HO := Lib.hid ho
    clear ho
    by_cases h0 : k = 0
    · subst h0
      clear hf hg
      go_wp2_with fail
      go_ret
      exact ⟨by rw [← HO.out]; rfl, _, rfl⟩
    · obtain ⟨j, rfl⟩ : ∃ j, k = j + 1 := ⟨k - 1, by omega⟩
      obtain ⟨b, off, rfl, hb, hc⟩ := hf.resolve_left (by omega)
      obtain ⟨b', off', rfl, hb', hc'⟩ := hg.resolve_left (by omega)
      have h1 := hc j (by omega)
      have h2 := hc' j (by omega)
      clear hc hc' hf hg
      have hjj : ((j + 1 : Nat) : Int) - 1 = (j : Int) := by omega
      rw [hjj]
      clear hjj
      by_cases he : f j = g j
      · have HE : Hid (ordF f g j = ordF f g n) := Lib.hid (by rw [← HO.out, ordF, if_pos he])
        clear HO
        rw [← he] at h2
        clear he
        generalize f j = x at *
        go_wp2_with fail
        go_quiet (fail)
        go_wp2_with fail
        go_quiet (fail)
        go_wp2_with fail
        go_roundw
        case rel => exact ⟨j, _, by omega, HE.out, rfl, rfl⟩
        case measure => simp [intOf]
      · have HE : Hid (cmpI (f j) (g j) = ordF f g n) := Lib.hid (by rw [← HO.out, ordF, if_neg he])
        clear HO
        by_cases hlt : (f j : Int) < g j
        · have hc : cmpI (f j) (g j) = -1 := by simp [cmpI, hlt]
          have HC := Lib.hid hc; clear hc he
          go_wp2_with fail
          go_quiet (fail)
          go_wp2_with fail
          go_ret
          exact ⟨by rw [← HE.out, HC.out]; rfl, _, by rw [World.drewN_drewN]⟩
        · have hc : cmpI (f j) (g j) = 1 := by simp [cmpI, hlt]; omega
          have hgt : (g j : Int) < f j := by omega
          have HC := Lib.hid hc; clear hc he
          go_wp2_with fail
          go_quiet (fail)
          go_wp2_with fail
          go_quiet (fail)
          go_wp2_with fail
          go_ret
          exact ⟨by rw [← HE.out, HC.out]; rfl, _, by rw [World.drewN_drewN, World.drewN_drewN]⟩

/-- The order of two numbers. -/
theorem rcmp_any (w : World) (a a' : Option Addr) (c c' x y : Nat) (hx : Num w a c x) (hy : Num w a' c' y) (hn : nl x ≤ 65536) :
    Calls Tryz.prog 146 #[.slice a (nl x) c, .slice a' (nl y) c'] w fun e w' => e = .returned (.int .i64 (cmpI x y)) ∧ ∃ nq, w' = w.drewN nq := by
  by_cases h : nl x = nl y
  · have h1 := hy.u64s
    rw [← h] at h1 ⊢
    have := rcmp_same w a a' (nl x) c c' _ _ hn hx.u64s h1
    rw [ordF_eq (fun i _ => dig_lt _ _) (fun i _ => dig_lt _ _), val_dig_nl, h, val_dig_nl, ← h] at this
    exact this
  · have := rcmp_len w a a' (nl x) (nl y) c c' h
    rw [cmpI_of_nl h] at this
    exact this

theorem rone (w : World) : Calls Tryz.prog 148 #[] w (Ret w fun v w' => ∃ a c, v = .slice a (nl 1) c ∧ Num w' a c 1) := by
  have h1 : nl 1 = 1 := nl_small (by omega) B64_gt
  have H1 := Lib.hid h1
  clear h1
  go_enter Tryz.func148, Tryz.ntmps148
  go_wp2_with fail
  go_ret
  refine ⟨_, rfl, (Below.refl _ _).alloc (Nat.le_refl _) _, some ⟨w.heap.size, 0, none⟩, 1, by rw [H1.out]; rfl, by rw [H1.out]; omega, .inr ⟨w.heap.size, 0, rfl, by simp, fun i hi => ?_⟩⟩
  rw [H1.out] at hi
  obtain rfl : i = 0 := by omega
  rw [dig_zero B64_gt]
  simp [go_sem]

theorem rwhole (w : World) (a : Option Addr) (n c : Nat) : Calls Tryz.prog 124 #[.bool false, .slice a n c] w (Ret w fun v _ => v = .agg #[.bool false, .slice a n c]) := by
  go_enter Tryz.func124, Tryz.ntmps124
  go_wp2_with fail
  exact bodyPost_ret (v := .agg #[.bool false, .slice a n c]) (by simp [results, Tryz.results124, go_sem]) rfl ⟨_, rfl, (by repeat (first | exact (Below.refl _ _).alloc (Nat.le_refl _) _ | refine Below.setCell ?_ (Nat.le_refl _) _)), rfl⟩
end Go.Proofs.YtodeddappmfphaaGreatDoor
