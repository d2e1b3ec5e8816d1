/- The law LearnLevels: its walk. -/
import Derived.Test.YtodeddappmfphaaGreatDoorLvo
import Derived.ChangeSlices
namespace Go.Proofs.YtodeddappmfphaaGreatDoor
open Go.RowKit Go.Thd

/-- The asked ones: entry, literal, the levels wanted, is one without a value. -/
def kk (Z : Nat → Int) (n j : Nat) : Nat := (Z j % ((n : Int) + 1)).toNat + 1
def lq (Z : Nat → Int) (n j : Nat) : Int := if j % 2 = 1 then -((kk Z n j : Nat) : Int) else ((kk Z n j : Nat) : Int)
def ls (Z : Nat → Int) (n i : Nat) : List Int := (List.range i).map (lq Z n)
def ws (K : Nat → Bool) (Z : Nat → Int) (n i : Nat) : List Int := ((List.range i).filter fun j => decide (kk Z n j ≤ n)).map fun j => ((Lv K (kk Z n j) : Nat) : Int)
def nn (Z : Nat → Int) (n i : Nat) : Bool := (List.range i).any fun j => decide (n < kk Z n j)
def al (K : Nat → Bool) (i : Nat) : List Int := (List.range i).map fun j => ((Lv K (j + 1) : Nat) : Int)
theorem kk_lt (Z : Nat → Int) (n j : Nat) : 1 ≤ kk Z n j ∧ kk Z n j ≤ n + 1 := by
  have h1 := Int.emod_nonneg (Z j) (show (n : Int) + 1 ≠ 0 by omega)
  have h2 := Int.emod_lt_of_pos (Z j) (show (0 : Int) < (n : Int) + 1 by omega)
  unfold kk
  omega
theorem lq_abs (Z : Nat → Int) (n j : Nat) : (lq Z n j).natAbs = kk Z n j := by unfold lq; split <;> omega
theorem ls_succ (Z : Nat → Int) (n i : Nat) : ls Z n (i + 1) = ls Z n i ++ [lq Z n i] := by unfold ls; rw [List.range_succ, List.map_append]; rfl
theorem al_succ (K : Nat → Bool) (i : Nat) : al K (i + 1) = al K i ++ [((Lv K (i + 1) : Nat) : Int)] := by unfold al; rw [List.range_succ, List.map_append]; rfl
theorem nn_succ (Z : Nat → Int) (n i : Nat) : nn Z n (i + 1) = (nn Z n i || decide (n < kk Z n i)) := by unfold nn; rw [List.range_succ, List.any_append]; simp
theorem ws_in (K : Nat → Bool) (Z : Nat → Int) (n i : Nat) (h : kk Z n i ≤ n) : ws K Z n (i + 1) = ws K Z n i ++ [((Lv K (kk Z n i) : Nat) : Int)] := by
  unfold ws; rw [List.range_succ, List.filter_append, List.map_append]; simp [h]
theorem ws_out (K : Nat → Bool) (Z : Nat → Int) (n i : Nat) (h : ¬ kk Z n i ≤ n) : ws K Z n (i + 1) = ws K Z n i := by
  unfold ws; rw [List.range_succ, List.filter_append, List.map_append]; simp [h]
theorem ls_len (Z : Nat → Int) (n i : Nat) : (ls Z n i).length = i := by simp [ls]
theorem al_len (K : Nat → Bool) (i : Nat) : (al K i).length = i := by simp [al]
theorem ws_len (K : Nat → Bool) (Z : Nat → Int) (n i : Nat) : (ws K Z n i).length ≤ i := by
  unfold ws; rw [List.length_map]; exact Nat.le_trans (List.length_filter_le _ _) (by simp)
theorem ls_mem {Z : Nat → Int} {n i : Nat} {x : Int} (h : x ∈ ls Z n i) : ∃ j, j < i ∧ x = lq Z n j := by
  obtain ⟨j, hj, rfl⟩ := List.mem_map.1 h
  exact ⟨j, by simpa using hj, rfl⟩
theorem ws_all {K : Nat → Bool} {Z : Nat → Int} {n i : Nat} (h : nn Z n i = false) : (ls Z n i).map (SL K n n).level = ws K Z n i := by
  unfold nn at h
  rw [List.any_eq_false] at h
  unfold ls ws
  rw [List.filter_eq_self.2 (fun j hj => by have := h j hj; simp at this ⊢; omega), List.map_map]
  apply List.map_congr_left
  intro j hj
  have h1 := h j hj
  have h2 := kk_lt Z n j
  simp at h1
  show (SL K n n).level (lq Z n j) = _
  rw [SL_level (by rw [lq_abs]; omega) (by rw [lq_abs]; omega) (by omega), lq_abs]
theorem nn_some {K : Nat → Bool} {Z : Nat → Int} {n i : Nat} (h : nn Z n i = true) : ∃ x ∈ ls Z n i, (SL K n n).level x = -1 := by
  unfold nn at h
  obtain ⟨j, hj, h1⟩ := List.any_eq_true.1 h
  exact ⟨lq Z n j, List.mem_map.2 ⟨j, hj, rfl⟩, SL_nolevel (by rw [lq_abs]; simpa using h1)⟩
theorem nn_none {K : Nat → Bool} {Z : Nat → Int} {n i : Nat} (h : nn Z n i = false) (hn : n + 1 ≤ 1000) : ∀ x ∈ ls Z n i, (SL K n n).level x ≠ -1 := by
  unfold nn at h
  rw [List.any_eq_false] at h
  intro x hx
  obtain ⟨j, hj, rfl⟩ := ls_mem hx
  have h1 := h j (by simpa using hj)
  have h2 := kk_lt Z n j
  simp at h1
  rw [SL_level (by rw [lq_abs]; omega) (by rw [lq_abs]; omega) (by omega)]
  omega
theorem ls_i64 {Z : Nat → Int} {n i : Nat} (hn : n ≤ 1000) : ∀ x ∈ ls Z n i, I64 x := by
  intro x hx
  obtain ⟨j, hj, rfl⟩ := ls_mem hx
  have h2 := kk_lt Z n j
  unfold lq I64
  split <;> omega

/-- Two rows of ints, the literals asked and the levels wanted, made since Y. -/
structure Lq (Y w : World) (vl vw : Value) (l u : List Int) : Prop where
  below : Below Y.heap.size Y w
  rl : OwnI w vl l
  ru : OwnI w vw u
  gl : ∀ b, vl.ownBlock = some b → Y.heap.size ≤ b
  gu : ∀ b, vw.ownBlock = some b → Y.heap.size ≤ b
  ne : ∀ b, vl.ownBlock = some b → vw.ownBlock ≠ some b
theorem Lq.nil (Y : World) : Lq Y Y (.slice none 0 0) (.slice none 0 0) [] [] :=
  ⟨Below.refl _ _, OwnI.nil _, OwnI.nil _, fun b hb => by simp [Value.ownBlock] at hb, fun b hb => by simp [Value.ownBlock] at hb, fun b hb => by simp [Value.ownBlock] at hb⟩
theorem Lq.mono {Y w w' : World} {vl vw : Value} {l u : List Int} (h : Lq Y w vl vw l u) (hb : Below w.heap.size w w') : Lq Y w' vl vw l u :=
  ⟨h.below.trans (hb.mono h.below.size), h.rl.mono hb, h.ru.mono hb, h.gl, h.gu, h.ne⟩
theorem Lq.left {Y w : World} {vl vw : Value} {l u : List Int} (h : Lq Y w vl vw l u) (x : Int) (hl : l.length < 100000) :
    ∃ v' w', (Builtin.append_ #[29, 29] 29 #[vl, .slice (some ⟨w.heap.size, 0, none⟩) 1 1]).run Tryz.prog (w.alloc (.cells #[.int .i64 x] 3)) = .ok v' w' ∧ Lq Y w' v' vw (l ++ [x]) u := by
  obtain ⟨v', w', hrun, hO, hU, hfr⟩ := append_int h.rl x hl
  refine ⟨v', w', hrun, ⟨h.below.trans (hU.below (fun k hk hk' => by have := h.gl k hk'; omega) h.below.size), hO, h.ru.upd hU (fun b hb e => h.ne b e hb), fun b hb => ?_, h.gu, fun b hb e => ?_⟩⟩
  · rcases hfr b hb with h1 | h1
    · exact h.gl b h1
    · exact Nat.le_trans h.below.size h1
  · rcases hfr b hb with h1 | h1
    · exact h.ne b h1 e
    · have := (World.ownsRow.lt h.ru b e).2; omega
theorem Lq.right {Y w : World} {vl vw : Value} {l u : List Int} (h : Lq Y w vl vw l u) (x : Int) (hl : u.length < 100000) :
    ∃ v' w', (Builtin.append_ #[29, 29] 29 #[vw, .slice (some ⟨w.heap.size, 0, none⟩) 1 1]).run Tryz.prog (w.alloc (.cells #[.int .i64 x] 3)) = .ok v' w' ∧ Lq Y w' vl v' l (u ++ [x]) := by
  obtain ⟨v', w', hrun, hO, hU, hfr⟩ := append_int h.ru x hl
  refine ⟨v', w', hrun, ⟨h.below.trans (hU.below (fun k hk hk' => by have := h.gu k hk'; omega) h.below.size), h.rl.upd hU (fun b hb e => h.ne b hb e), hO, h.gl, fun b hb => ?_, fun b hb e => ?_⟩⟩
  · rcases hfr b hb with h1 | h1
    · exact h.gu b h1
    · exact Nat.le_trans h.below.size h1
  · rcases hfr b e with h1 | h1
    · exact h.ne b hb h1
    · have := (World.ownsRow.lt h.rl b hb).2; omega

set_option maxRecDepth 100000 in
set_option maxHeartbeats 2000000 in
theorem levels_main (w : World) (n : Nat) (h1 : 1 ≤ n) (h10 : n ≤ 10) (ka : Addr) (kc : Nat) (K : Nat → Bool) (hkl : ka.block < w.heap.size) (hK : ∀ j, j < n → w.cell? (ka.add j) = some (.bool (K j)))
    (qa : Option Addr) (m qc : Nat) (hm : m ≤ 10) (Z : Nat → Int) (hZ : ∀ j, j < m → ∃ ad, qa = some ad ∧ ad.block < w.heap.size ∧ w.cell? (ad.add j) = some (.int .i64 (Z j))) :
    Calls Tryz.prog 8 #[.slice (some ka) n kc, .slice qa m qc] w (Ret w fun v _ => v = .bool true) := by
  have e1 : decide ((n : Int) < 1) = false := by simp; omega
  have e2 : decide ((10 : Int) < n) = false := by simp; omega
  have e3 : decide ((10 : Int) < m) = false := by simp; omega
  have HKL := Lib.hid hkl
  have HK := Lib.hid hK
  have HZ := Lib.hid hZ
  clear hkl hK hZ
  go_enter Tryz.func8, Tryz.ntmps8
  go_wp2_with fail
  clear e1 e2 e3
  go_loopw [7] (fun v wr => ∃ k : Nat, k ≤ n + 1 ∧ v = .int .i64 (k : Int) ∧ Below w.heap.size w wr ∧ ∃ vv va, PB wr w.heap.size vv va k ∧ (∀ b, vv.ownBlock = some b → w.heap.size ≤ b) ∧ ∀ b, va.ownBlock = some b → w.heap.size ≤ b) (fun v _ => (n + 1 - intOf v).toNat)
  case atStart => exact ⟨0, Nat.zero_le _, rfl, (Below.refl _ _).alloc (Nat.le_refl _) _, _, _, PB.zero w, fun b hb => by simp [Value.ownBlock] at hb, fun b hb => by simp [Value.ownBlock] at hb⟩
  case round =>
    obtain ⟨k, hk, rfl, hB, vv, va, hPB, hv, hva⟩ := hrel
    have HB := Lib.hid hB
    have HV := Lib.hid hv
    have HA := Lib.hid hva
    have HPB := Lib.hid hPB
    clear hB hv hva
    by_cases hkn : k ≤ n
    · obtain ⟨gv, cv, w2, ga, ca, w4, hr1, ⟨f1, f2⟩, f3, hr2, ⟨f4, f5⟩, hP', hU, hg1, hg2⟩ := hPB.step (by omega)
      obtain ⟨c0, c1, _, _⟩ := hPB.cells
      obtain ⟨av, cvv, rfl⟩ := row_slice hPB.vars
      obtain ⟨aa, cva, rfl⟩ := row_slice hPB.atoms
      have HR1 := Lib.hid hr1
      have HR2 := Lib.hid hr2
      have HP' := Lib.hid hP'
      have HB' : Hid (Below w.heap.size w (w4.setCell ⟨w.heap.size, 1, none⟩ (.slice (some ⟨ga, 0, none⟩) (k + 1) ca))) := HB.out.trans (hU.below (fun j hj hF => by
        rcases hF with e | e | e
        · omega
        · have := HV.out j e; omega
        · have := HA.out j e; omega) HB.out.size)
      have HV' : Hid (w.heap.size ≤ gv) := by
        rcases hg1 with h | h
        · exact HV.out gv h
        · exact Nat.le_trans HB.out.size h
      have HA' : Hid (w.heap.size ≤ ga) := by
        rcases hg2 with h | h
        · exact HA.out ga h
        · exact Nat.le_trans HB.out.size h
      clear hr1 hr2 hP' hU hg1 hg2 hPB
      go_wp2_with (first | (at_builtin; refine wpList_append_by (o := ⟨some 48, _, _, _, _, _⟩) rfl _ _ 22 rfl _ _ _ _ rfl rfl HR1.out ?_) | (at_builtin; refine wpList_append_by (o := ⟨some 55, _, _, _, _, _⟩) rfl _ _ 23 rfl _ _ _ _ rfl rfl HR2.out ?_))
      go_roundw
      case rel => exact ⟨k + 1, by omega, by go_num, HB'.out, _, _, HP'.out, fun b hb => by rw [← Option.some.inj (show some gv = some b from hb)]; exact HV'.out, fun b hb => by rw [← Option.some.inj (show some ga = some b from hb)]; exact HA'.out⟩
      case measure => simp [intOf]; omega
    · obtain ⟨N, hN⟩ : ∃ N, N = n + 1 := ⟨_, rfl⟩
      have hkN : k = N := by omega
      subst hkN
      obtain ⟨bv, cv, ba, ca, rfl, rfl, hP⟩ := hPB.prob (by omega) (by omega)
      obtain ⟨c0, c1, c2, c3⟩ := hPB.cells
      have HP := Lib.hid hP
      have HN := Lib.hid hN
      have hni : ¬ ((k : Int) ≤ (n : Int)) := by omega
      clear hP hN hPB
      obtain ⟨X, rfl⟩ : ∃ X, X = wr := ⟨_, rfl⟩
      go_wp2_with fail
      refine (new_B X bv cv ba ca k 0 HP.out (by omega) (by omega)).mono ?_
      rintro e w1 ⟨T, rfl, hT⟩
      obtain ⟨bt, hbt⟩ : ∃ bt, T.bt = bt := ⟨_, rfl⟩
      rw [HN.out] at hT
      have HT := Lib.hid (SL_start K n hT.beside)
      rw [hbt] at HT
      rw [hbt]
      clear hT hbt hni c0 c1 c2 c3 hkn
      go_wp2_with fail
      go_loopw [10, 11, 12] (fun va vl vi wr' => ∃ i : Nat, i ≤ n ∧ vi = .int .i64 (i : Int) ∧ vl = .int .i64 ((Lv K i : Nat) : Int) ∧ ∃ T, TrO X.heap.size X wr' T (SL K n i) bt va (al K i)) (fun _ _ vi _ => (n - intOf vi).toNat)
      case atStart => exact ⟨0, Nat.zero_le _, rfl, rfl, T, HT.out⟩
      case round =>
        obtain ⟨i, hi, rfl, rfl, T, hT⟩ := hrel
        have HT := Lib.hid hT
        clear hT
        by_cases hin : i < n
        · have hc : wr.cell? (ka.add i) = some (.bool (K i)) := ((HB.out.trans (HT.out.tr.below.mono HB.out.size)).cell (p := ka.add i) (by rw [ChangeShapes.block_add]; exact HKL.out)).trans (HK.out i hin)
          have hlv := Lv_le K i
          by_cases hdc : dc K i = true
          · have hlv2 : ((Lv K (i + 1) : Nat) : Int) = ((Lv K i : Nat) : Int) + 1 := by rw [Lv_dec hdc]; rfl
            have HLV := Lib.hid hlv2
            have D := Lib.hid (decide_O HT.out ((i : Int) + 1) (by unfold I64; omega) (is_of (by omega) (by show _ ≤ n + 1; omega)) (SL_free (by omega)) (by show i < 1000; omega) (by show ((Lv K i : Nat) : Int) < 1000; omega))
            have hdc' := Lib.hid hdc
            clear hlv2 hdc
            cases hki : K i with
            | true =>
              rw [hki] at hc
              go_wp2_with fail
              refine D.out.mono ?_
              rintro e w2 ⟨rfl, T2, hT2⟩
              obtain ⟨v', w3, hrun, hT3⟩ := (SL_dec hdc'.out (by omega) hT2).append (((Lv K i : Nat) : Int) + 1) (by rw [al_len]; omega)
              have HR := Lib.hid hrun
              have HT3 := Lib.hid hT3
              clear hrun hT3 hT2 D
              go_wp2_with (at_builtin; go_must (refine wpList_append_by (o := ⟨some 101, _, _, _, _, _⟩) rfl _ _ 29 rfl _ _ _ _ rfl rfl HR.out ?_))
              go_roundw
              case rel => exact ⟨i + 1, by omega, by go_num, by rw [HLV.out], T2, by rw [al_succ, HLV.out]; exact HT3.out⟩
              case measure => simp [intOf]; omega
            | false =>
              rw [hki] at hc
              have g0 : ((i : Int) == 0) = true := by
                have := hdc'.out
                unfold dc at this
                rw [hki] at this
                simp at this ⊢
                omega
              go_wp2_with fail
              refine D.out.mono ?_
              rintro e w2 ⟨rfl, T2, hT2⟩
              obtain ⟨v', w3, hrun, hT3⟩ := (SL_dec hdc'.out (by omega) hT2).append (((Lv K i : Nat) : Int) + 1) (by rw [al_len]; omega)
              have HR := Lib.hid hrun
              have HT3 := Lib.hid hT3
              clear hrun hT3 hT2 D g0
              go_wp2_with (at_builtin; go_must (refine wpList_append_by (o := ⟨some 101, _, _, _, _, _⟩) rfl _ _ 29 rfl _ _ _ _ rfl rfl HR.out ?_))
              go_roundw
              case rel => exact ⟨i + 1, by omega, by go_num, by rw [HLV.out], T2, by rw [al_succ, HLV.out]; exact HT3.out⟩
              case measure => simp [intOf]; omega
          · have hdc2 : dc K i = false := by simpa using hdc
            have hki : K i = false := by unfold dc at hdc2; simp at hdc2; exact hdc2.1
            have hi0 : i ≠ 0 := by unfold dc at hdc2; simp at hdc2; exact hdc2.2
            have g0 : ((i : Int) == 0) = false := by rw [beq_eq_false_iff_ne]; omega
            rw [hki] at hc
            have HLV := Lib.hid (Lv_for hdc2)
            have hdc' := Lib.hid hdc2
            clear hdc hdc2 hki
            go_wp2_with fail
            refine (force_O (HT.out.mono ((Below.refl _ _).alloc (Nat.le_refl _) _)) ((i : Int) + 1) (by unfold I64; omega) (is_of (by omega) (by show _ ≤ n + 1; omega)) (SL_free (by omega)) (by show i < 1000; omega) _ 2 2 [(i : Int) + 1, -(i : Int)] rfl (ints_new wr [(i : Int) + 1, -(i : Int)] _) (apart_alloc HT.out.tr.tr) (by simp) (fun x hx => by simp at hx; unfold I64; omega) (by simp) (fun x hx h2 => by
              simp at hx
              rcases hx with rfl | rfl
              · exact absurd rfl h2
              · rw [SL_has (by omega) (by omega) (by omega), if_pos (by omega)])).mono ?_
            rintro e w2 ⟨rfl, T2, hT2⟩
            obtain ⟨v', w3, hrun, hT3⟩ := (SL_for hdc'.out (by omega) rfl hT2).append ((Lv K i : Nat) : Int) (by rw [al_len]; omega)
            have HR := Lib.hid hrun
            have HT3 := Lib.hid hT3
            clear hrun hT3 hT2 g0
            go_wp2_with (at_builtin; go_must (refine wpList_append_by (o := ⟨some 101, _, _, _, _, _⟩) rfl _ _ 29 rfl _ _ _ _ rfl rfl HR.out ?_))
            go_roundw
            case rel => exact ⟨i + 1, by omega, by go_num, by rw [HLV.out], T2, by rw [al_succ, HLV.out]; exact HT3.out⟩
            case measure => simp [intOf]; omega
        · obtain rfl : i = n := by omega
          obtain ⟨ab, ac, rfl, hab, hablt, hac, hcells, hfz⟩ := OwnI.row HT.out.row (by rw [ne_eq, ← List.length_eq_zero_iff, al_len]; omega)
          rw [al_len]
          have HAT : Hid (∀ j, j < i → wr.cell? ⟨ab, j, none⟩ = some (.int .i64 ((Lv K (j + 1) : Nat) : Int))) := by
            intro j hj
            rw [hcells j (by rw [al_len]; exact hj)]
            unfold al
            rw [getD_eq _ (by simpa using hj)]
            simp
          have HT' := Lib.hid HT.out.tr
          have HBT := Lib.hid HT.out.bt
          have HAL := Lib.hid hablt
          clear hab hablt hac hcells hfz HT hin
          obtain ⟨Y, rfl⟩ : ∃ Y, Y = wr := ⟨_, rfl⟩
          go_wp2_with fail
          go_loopw [13, 14, 15, 16] (fun vl vu vn vi wr' => ∃ q : Nat, q ≤ m ∧ vi = .int .i64 (q : Int) ∧ vn = .bool (nn Z i q) ∧ Lq Y wr' vl vu (ls Z i q) (ws K Z i q)) (fun _ _ _ vi _ => (m - intOf vi).toNat)
          case atStart => exact ⟨0, Nat.zero_le _, rfl, rfl, Lq.nil Y⟩
          case round =>
            obtain ⟨q, hq, rfl, rfl, hL⟩ := hrel
            have HL := Lib.hid hL
            clear hL
            by_cases hqm : q < m
            · obtain ⟨la0, lc0, hvl, _, _⟩ := HL.out.rl.slice
              rw [ls_len] at hvl
              subst hvl
              obtain ⟨ua0, uc0, hvu, _, _⟩ := HL.out.ru.slice
              subst hvu
              obtain ⟨ad, rfl, hadl, hadc⟩ := HZ.out q hqm
              have hBw : Below w.heap.size w wr := (HB.out.trans (HT'.out.below.mono HB.out.size)).trans (HL.out.below.mono (Nat.le_trans HB.out.size HT'.out.below.size))
              have hc : wr.cell? (ad.add q) = some (.int .i64 (Z q)) := (hBw.cell (p := ad.add q) (by rw [ChangeShapes.block_add]; exact hadl)).trans hadc
              have hR := round_any wr (Z q) (i + 1) (by omega) (by omega)
              rw [show ((i + 1 : Nat) : Int) = (i : Int) + 1 from by omega] at hR
              have hr0 := Int.emod_nonneg (Z q) (show (i : Int) + 1 ≠ 0 by omega)
              have hr1 := Int.emod_lt_of_pos (Z q) (show (0 : Int) < (i : Int) + 1 by omega)
              obtain ⟨r, hr⟩ : ∃ r : Nat, Z q % ((i : Int) + 1) = (r : Int) := ⟨(Z q % ((i : Int) + 1)).toNat, by omega⟩
              have hkk : kk Z i q = r + 1 := by unfold kk; rw [hr]; simp
              rw [hr] at hR hr0 hr1
              have hri : r ≤ i := by omega
              have HR := Lib.hid hR
              have HKK := Lib.hid hkk
              clear hR hr hr0 hr1 hkk hBw hadl hadc
              have hgp : (((q : Int) % 2 == 1) = true ∧ lq Z i q = -(1 + (r : Int))) ∨ (((q : Int) % 2 == 1) = false ∧ lq Z i q = 1 + (r : Int)) := by
                have e1 : (q : Int) % 2 = ((q % 2 : Nat) : Int) := by omega
                rw [e1]
                unfold lq
                rw [HKK.out]
                by_cases hp : q % 2 = 1
                · left; rw [hp, if_pos rfl]; exact ⟨rfl, by omega⟩
                · right; rw [if_neg hp, show q % 2 = 0 from by omega]; exact ⟨rfl, by omega⟩
              have hgn : Hid (∀ b, nn Z i q = b → nn Z i (q + 1) = (b || decide (i < r + 1))) := by
                intro b hb; rw [nn_succ, HKK.out, hb]
              by_cases hrn : r < i
              · have gk : decide ((i : Int) < 1 + (r : Int)) = false := by simp; omega
                have gle : (1 : Int) + (r : Int) ≤ (i : Int) := by omega
                have gsub : (1 : Int) + (r : Int) - 1 = (r : Int) := by omega
                obtain ⟨v1, w1', hrun1, L1⟩ := HL.out.left (lq Z i q) (by rw [ls_len]; omega)
                obtain ⟨v2, w2', hrun2, L2⟩ := L1.right ((Lv K (r + 1) : Nat) : Int) (by have := ws_len K Z i q; omega)
                obtain ⟨lb, lc, rfl, hlb, hlblt, hlc, hlcells, _⟩ := OwnI.row L2.rl (by simp)
                have hl1 : (ls Z i q ++ [lq Z i q]).length = q + 1 := by rw [List.length_append, ls_len]; rfl
                have hcl : w2'.cell? ⟨lb, q, none⟩ = some (.int .i64 (lq Z i q)) := by
                  rw [hlcells q (by rw [hl1]; omega), getD_eq _ (by rw [hl1]; omega)]
                  rw [List.getElem_append_right (by rw [ls_len]; exact Nat.le_refl _)]
                  simp
                have hat : w1'.cell? ⟨ab, r, none⟩ = some (.int .i64 ((Lv K (r + 1) : Nat) : Int)) := (L1.below.cell (p := ⟨ab, r, none⟩) HAL.out).trans (HAT.out r hrn)
                have hla : (lq Z i q).natAbs = r + 1 := by rw [lq_abs, HKK.out]
                have hP := place_B (HT'.out.mono L2.below) HBT.out (lq Z i q) (by unfold I64; omega) (by rw [SL_has (by omega) (by omega) (by omega)]; split <;> decide)
                rw [hla, show r + 1 - 1 = r from rfl, SL_ent1 hrn, show ((r + 1 : Nat) : Int) = 1 + (r : Int) from by omega] at hP
                rw [hl1] at hrun1 L2
                clear hlb hlblt hlc hlcells hla
                have HR1 := Lib.hid hrun1
                have HR2 := Lib.hid hrun2
                have HL2 := Lib.hid L2
                have HP := Lib.hid hP
                clear hrun1 hrun2 L1 L2 hP
                rcases hgp with ⟨gp, hlq⟩ | ⟨gp, hlq⟩
                all_goals
                  rw [hlq] at HR1 HP hcl
                  have HLQ := Lib.hid hlq
                  clear hlq
                  cases hnn : nn Z i q
                  all_goals
                    have hn2 := hgn.out _ hnn
                    have HN2 := Lib.hid hn2
                    clear hn2 hnn
                    go_wp2_with fail
                    refine HR.out.mono ?_
                    rintro e w2 ⟨v, rfl, rfl, rfl⟩
                    go_wp2_with (first | (at_builtin; refine wpList_append_by (o := ⟨some 129, _, _, _, _, _⟩) rfl _ _ 29 rfl _ _ _ _ rfl rfl HR1.out ?_) | (at_builtin; refine wpList_append_by (o := ⟨some 133, _, _, _, _, _⟩) rfl _ _ 29 rfl _ _ _ _ rfl rfl HR1.out ?_) | (at_builtin; refine wpList_append_by (o := ⟨some 144, _, _, _, _, _⟩) rfl _ _ 29 rfl _ _ _ _ rfl rfl HR2.out ?_))
                    refine HP.out.mono ?_
                    rintro e w3 ⟨v, rfl, hb, rfl⟩
                    have HL3 := Lib.hid (HL2.out.mono hb)
                    clear hb
                    go_wp2_with fail
                    go_roundw
                    case rel => exact ⟨q + 1, by omega, by go_num, by rw [HN2.out]; simp <;> omega, by rw [ls_succ, ws_in K Z i q (by rw [HKK.out]; omega), HKK.out]; exact HL3.out⟩
                    case measure => simp [intOf]; omega
              · have gk : decide ((i : Int) < 1 + (r : Int)) = true := by simp; omega
                have gle : ¬ ((1 : Int) + (r : Int) ≤ (i : Int)) := by omega
                obtain ⟨v1, w1', hrun1, L1⟩ := HL.out.left (lq Z i q) (by rw [ls_len]; omega)
                have HR1 := Lib.hid hrun1
                have HL2 := Lib.hid L1
                clear hrun1 L1
                rcases hgp with ⟨gp, hlq⟩ | ⟨gp, hlq⟩
                all_goals
                  rw [hlq] at HR1
                  have HLQ := Lib.hid hlq
                  clear hlq
                  cases hnn : nn Z i q
                  all_goals
                    have hn2 := hgn.out _ hnn
                    have HN2 := Lib.hid hn2
                    clear hn2 hnn
                    go_wp2_with fail
                    refine HR.out.mono ?_
                    rintro e w2 ⟨v, rfl, rfl, rfl⟩
                    go_wp2_with (first | (at_builtin; refine wpList_append_by (o := ⟨some 129, _, _, _, _, _⟩) rfl _ _ 29 rfl _ _ _ _ rfl rfl HR1.out ?_) | (at_builtin; refine wpList_append_by (o := ⟨some 133, _, _, _, _, _⟩) rfl _ _ 29 rfl _ _ _ _ rfl rfl HR1.out ?_))
                    go_roundw
                    case rel => exact ⟨q + 1, by omega, by go_num, by rw [HN2.out]; simp <;> omega, by rw [ls_succ, ws_out K Z i q (by rw [HKK.out]; omega)]; exact HL2.out⟩
                    case measure => simp [intOf]; omega
            · obtain rfl : q = m := by omega
              obtain ⟨la, lc, rfl, hli, _⟩ := HL.out.rl.slice
              obtain ⟨ua, uc, rfl, hui, _⟩ := HL.out.ru.slice
              rw [ls_len]
              have HLI := Lib.hid hli
              have HUI := Lib.hid hui
              have HT2 := Lib.hid (HT'.out.mono HL.out.below)
              clear hli hui
              cases hnn : nn Z i q
              · have HE := Lib.hid (ws_all (K := K) hnn)
                have HV := Lib.hid (nn_none (K := K) hnn (by omega))
                clear hnn
                have hwl : (ws K Z i q).length = q := by rw [← HE.out, List.length_map, ls_len]
                rw [hwl]
                have HWL := Lib.hid hwl
                clear hwl
                go_wp2_with fail
                refine (levels_B HT2.out HBT.out la q lc (ls Z i q) (ls_len Z i q).symm HLI.out (by rw [ls_len]; omega) (ls_i64 (by omega)) (fun j _ => SL_why) HV.out).mono ?_
                rintro e w2 ⟨v, rfl, hb, a', c', rfl, hi⟩
                rw [HE.out] at hi
                have HI2 := Lib.hid hi
                have HU2 := Lib.hid (HUI.out.mono hb)
                have HT3 := Lib.hid (HT2.out.mono hb)
                clear hb hi
                go_wp2_with fail
                refine (ints_B w2 a' ua q q c' uc (ws K Z i q) (ws K Z i q) HWL.out.symm HWL.out.symm HI2.out HU2.out (by rw [HWL.out]; omega) (by rw [HWL.out]; omega) true (by simp)).mono ?_
                rintro e w3 ⟨v, rfl, hb, rfl⟩
                have HT4 := Lib.hid (HT3.out.mono hb)
                clear hb
                go_wp2_with fail
                refine (awake_ok _).mono ?_
                rintro e w4 ⟨v, rfl, hb, rfl⟩
                have HT5 := Lib.hid (HT4.out.mono hb)
                clear hb
                go_wp2_with fail
                go_ret
                exact ⟨_, rfl, HB.out.trans (HT5.out.below.mono HB.out.size), rfl⟩
              · have HV := Lib.hid (nn_some (K := K) hnn)
                clear hnn
                go_wp2_with fail
                refine (levels_none_B HT2.out HBT.out la q lc (ls Z i q) (ls_len Z i q).symm HLI.out (by rw [ls_len]; omega) (ls_i64 (by omega)) (fun j _ => SL_why) HV.out).mono ?_
                rintro e w2 ⟨v, rfl, hb, rfl⟩
                have HT3 := Lib.hid (HT2.out.mono hb)
                clear hb
                go_wp2_with fail
                refine (awake_ok _).mono ?_
                rintro e w4 ⟨v, rfl, hb, rfl⟩
                have HT5 := Lib.hid (HT3.out.mono hb)
                clear hb
                go_wp2_with fail
                go_ret
                exact ⟨_, rfl, HB.out.trans (HT5.out.below.mono HB.out.size), rfl⟩
end Go.Proofs.YtodeddappmfphaaGreatDoor
