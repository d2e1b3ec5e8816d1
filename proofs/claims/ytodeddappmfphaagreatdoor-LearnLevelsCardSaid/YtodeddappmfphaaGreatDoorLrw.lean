/- The law LearnRow: its walk, second part. -/
import Derived.Test.YtodeddappmfphaaGreatDoorLro
namespace Go.Proofs.YtodeddappmfphaaGreatDoor
open Go.RowKit Go.Thd

set_option maxRecDepth 100000 in
set_option maxHeartbeats 2000000 in
theorem row_main (w : World) (n a : Nat) (at_ : Int) (h1 : 1 ≤ n) (h8 : n ≤ 8) (ha : a ≤ 6) :
    Calls Tryz.prog 7 #[.int .i64 (n : Nat), .int .i64 (a : Nat), .int .i64 at_] w (Ret w fun v _ => v = .bool true) := by
  have e1 : decide ((n : Int) < 1) = false := by simp; omega
  have e2 : decide ((8 : Int) < n) = false := by simp; omega
  have e3 : decide ((a : Int) < 0) = false := by simp
  have e4 : decide ((6 : Int) < a) = false := by simp; omega
  go_enter Tryz.func7, Tryz.ntmps7
  go_wp2_with fail
  clear e1 e2 e3 e4
  go_loopw [8] (fun v wr => ∃ k : Nat, k ≤ n + a ∧ v = .int .i64 (k : Int) ∧ Below w.heap.size w wr ∧ ∃ vv va, PB wr w.heap.size vv va k ∧ (∀ b, vv.ownBlock = some b → w.heap.size ≤ b) ∧ ∀ b, va.ownBlock = some b → w.heap.size ≤ b) (fun v _ => (n + a - intOf v).toNat)
  case atStart => exact ⟨0, Nat.zero_le _, rfl, (Below.refl _ _).alloc (Nat.le_refl _) _, _, _, PB.zero w, fun b hb => by simp [Value.ownBlock] at hb, fun b hb => by simp [Value.ownBlock] at hb⟩
  case round =>
    obtain ⟨k, hk, rfl, hB, vv, va, hPB, hv, hva⟩ := hrel
    have HB := Lib.hid hB
    have HV := Lib.hid hv
    have HA := Lib.hid hva
    have HPB := Lib.hid hPB
    clear hB hv hva
    by_cases hkn : k < n + a
    · obtain ⟨gv, cv, w2, ga, ca, w4, hr1, ⟨f1, f2⟩, f3, hr2, ⟨f4, f5⟩, hP', hU, hg1, hg2⟩ := hPB.step (by omega)
      obtain ⟨c0, c1, _, _⟩ := hPB.cells
      obtain ⟨av, cvv, rfl⟩ := row_slice hPB.vars
      obtain ⟨aa, cva, rfl⟩ := row_slice hPB.atoms
      have HR1 := Lib.hid hr1
      have HR2 := Lib.hid hr2
      have HP' := Lib.hid hP'
      have HB' : Hid (Below w.heap.size w (w4.setCell ⟨w.heap.size, 1, none⟩ (.slice (some ⟨ga, 0, none⟩) (k + 1) ca))) := HB.out.trans (hU.below (fun j hj hF => by
        rcases hF with e | e | e
        · omega
        · have := HV.out j e; omega
        · have := HA.out j e; omega) HB.out.size)
      have HV' : Hid (w.heap.size ≤ gv) := by
        rcases hg1 with h | h
        · exact HV.out gv h
        · exact Nat.le_trans HB.out.size h
      have HA' : Hid (w.heap.size ≤ ga) := by
        rcases hg2 with h | h
        · exact HA.out ga h
        · exact Nat.le_trans HB.out.size h
      clear hr1 hr2 hP' hU hg1 hg2 hPB
      go_wp2_with (first | (at_builtin; refine wpList_append_by (o := ⟨some 46, _, _, _, _, _⟩) rfl _ _ 22 rfl _ _ _ _ rfl rfl HR1.out ?_) | (at_builtin; refine wpList_append_by (o := ⟨some 53, _, _, _, _, _⟩) rfl _ _ 23 rfl _ _ _ _ rfl rfl HR2.out ?_))
      go_roundw
      case rel => exact ⟨k + 1, by omega, by go_num, HB'.out, _, _, HP'.out, fun b hb => by rw [← Option.some.inj (show some gv = some b from hb)]; exact HV'.out, fun b hb => by rw [← Option.some.inj (show some ga = some b from hb)]; exact HA'.out⟩
      case measure => simp [intOf]; omega
    · obtain ⟨N, hN⟩ : ∃ N, N = n + a := ⟨_, rfl⟩
      have hkN : k = N := by omega
      subst hkN
      obtain ⟨bv, cv, ba, ca, rfl, rfl, hP⟩ := hPB.prob (by omega) (by omega)
      obtain ⟨c0, c1, c2, c3⟩ := hPB.cells
      have HP := Lib.hid hP
      have HN := Lib.hid hN
      have hni : ¬ ((k : Int) < (n : Int) + (a : Int)) := by omega
      clear hP hN hPB
      obtain ⟨X, rfl⟩ : ∃ X, X = wr := ⟨_, rfl⟩
      go_wp2_with fail
      refine (new_B X bv cv ba ca k 0 HP.out (by omega) (by omega)).mono ?_
      rintro e w1 ⟨T, rfl, hT⟩
      obtain ⟨bt, hbt⟩ : ∃ bt, T.bt = bt := ⟨_, rfl⟩
      rw [hbt]
      rw [HN.out] at hT
      have HT := Lib.hid (SR_start n a hT)
      have HBT := Lib.hid hbt
      clear hT hbt hni c0 c1 c2 c3 hkn
      go_wp2_with fail
      go_loopw [11] (fun v wr' => ∃ d : Nat, d ≤ a ∧ v = .int .i64 (d : Int) ∧ ∃ T, TrB X.heap.size X wr' T (SR n a d 0) ∧ T.bt = bt) (fun v _ => (a - intOf v).toNat)
      case atStart => exact ⟨0, Nat.zero_le _, rfl, T, HT.out, HBT.out⟩
      case round =>
        obtain ⟨d, hd, rfl, T, hT, hbt⟩ := hrel
        have HT := Lib.hid hT
        have HBT := Lib.hid hbt
        clear hT hbt
        by_cases hda : d < a
        · go_wp2_with fail
          rw [show ((n : Int) + 1 + (d : Int)) = ((n + 1 + d : Nat) : Int) from by omega]
          refine (decide_B HT.out HBT.out ((n + 1 + d : Nat) : Int) (by unfold I64; omega) (is_of (by omega) (by show _ ≤ n + a; omega)) (val_zero (by
            have e1 : (((n + 1 + d : Nat) : Int)).natAbs - 1 = n + d := by omega
            rw [e1]; exact SR_ent0 n a d 0 (by omega) (by omega))) (by show d + 0 < 1000; omega) (by show ((d + (if 0 = 0 then 0 else 1) : Nat) : Int) < 1000; simp; omega)).mono ?_
          rintro e w2 ⟨rfl, T2, hT2, hbt2⟩
          have HT2 := Lib.hid (SR_ahead n a d hT2)
          have HBT2 := Lib.hid hbt2
          clear hT2 hbt2
          go_wp2_with fail
          go_roundw
          case rel => exact ⟨d + 1, by omega, by go_num, T2, HT2.out, HBT2.out⟩
          case measure => simp [intOf]; omega
        · obtain rfl : d = a := by omega
          go_wp2_with fail
          go_loopw [12] (fun v wr' => ∃ f : Nat, f ≤ n ∧ v = .int .i64 ((f : Int) + 1) ∧ ∃ T, TrB X.heap.size X wr' T (SR n d d f) ∧ T.bt = bt) (fun v _ => (n + 1 - intOf v).toNat)
          case atStart => exact ⟨0, Nat.zero_le _, rfl, T, HT.out, HBT.out⟩
          case round =>
            obtain ⟨f, hf, rfl, T, hT, hbt⟩ := hrel
            have HT := Lib.hid hT
            have HBT := Lib.hid hbt
            clear hT hbt
            by_cases hfn : f < n
            · by_cases hf0 : f = 0
              · subst hf0
                have e0 : ((0 : Nat) : Int) + 1 = 1 := rfl
                rw [e0]
                clear e0
                go_wp2_with fail
                refine (decide_B HT.out HBT.out 1 (by unfold I64; omega) (is_of (by omega) (by show 1 ≤ n + d; omega)) (val_zero (by
                  have e1 : ((1 : Int)).natAbs - 1 = 0 := rfl
                  rw [e1]; exact SR_ent0 n d d 0 (by omega) (by omega))) (by show d + 0 < 1000; omega) (by show ((d + (if 0 = 0 then 0 else 1) : Nat) : Int) < 1000; simp; omega)).mono ?_
                rintro e w2 ⟨rfl, T2, hT2, hbt2⟩
                have HT2 := Lib.hid (SR_first n d d hT2)
                have HBT2 := Lib.hid hbt2
                clear hT2 hbt2
                go_wp2_with fail
                go_roundw
                case rel => exact ⟨1, by omega, rfl, T2, HT2.out, HBT2.out⟩
                case measure => simp [intOf]; omega
              · have g1 : ((f : Int) + 1 == 1) = false := by rw [beq_eq_false_iff_ne]; omega
                have g2 : decide ((1 : Int) < (f : Int) + 1) = true := by simp; omega
                have g3 : (f : Int) + 1 - 1 = (f : Int) := by omega
                go_wp2_with fail
                clear g1 g2 g3
                refine (force_B (HT.out.alloc _) HBT.out ((f : Int) + 1) (by unfold I64; omega) (is_of (by omega) (by show _ ≤ n + d; omega)) (val_zero (by
                  have e1 : ((f : Int) + 1).natAbs - 1 = f := by omega
                  rw [e1]; exact SR_ent0 n d d f (by omega) (by omega))) (by show d + f < 1000; omega) _ 2 2 [-(f : Int), (f : Int) + 1] rfl (ints_new wr [-(f : Int), (f : Int) + 1] _) (apart_alloc HT.out.tr) (by simp) (fun x hx => by simp at hx; unfold I64; omega) (by simp) (fun x hx h2 => by
                    simp at hx
                    rcases hx with rfl | rfl
                    · exact SR_val n d d f f (by omega) (Nat.le_refl _) (by omega)
                    · exact absurd rfl h2)).mono ?_
                rintro e w2 ⟨rfl, T2, hT2, hbt2⟩
                have HT2 := Lib.hid (SR_next n d d f (by omega) (by rw [show ((f + 1 : Nat) : Int) = (f : Int) + 1 from by omega]; exact hT2))
                have HBT2 := Lib.hid hbt2
                clear hT2 hbt2
                go_wp2_with fail
                go_roundw
                case rel => exact ⟨f + 1, by omega, by go_num, T2, HT2.out, HBT2.out⟩
                case measure => simp [intOf]; omega
            · obtain rfl : f = n := by omega
              have g1 : ¬ ((f : Int) + 1 ≤ (f : Int)) := by omega
              go_wp2_with fail
              refine (round_any _ at_ f (by omega) (by omega)).mono ?_
              rintro e w2 ⟨v, rfl, rfl, rfl⟩
              have hr0 := Int.emod_nonneg at_ (show (f : Int) ≠ 0 by omega)
              have hr1 := Int.emod_lt_of_pos at_ (show (0 : Int) < f by omega)
              obtain ⟨r, hr⟩ : ∃ r : Nat, at_ % (f : Int) = (r : Int) := ⟨(at_ % (f : Int)).toNat, by omega⟩
              rw [hr] at hr0 hr1 ⊢
              have hrf : r < f := by omega
              clear hr hr0 hr1 g1 hfn
              by_cases hlast : r + 1 = f
              · have g2 : ((1 : Int) + (r : Int) != (f : Int)) = false := by rw [bne_eq_false_iff_eq]; omega
                go_wp2_with fail
                refine (analyze_one_B (HT.out.alloc _) HBT.out (SR_row f d h1 h8) (by omega) _ 1 h1 (ints_new wr [-(f : Int)] _)).mono ?_
                rintro e w2 ⟨v, rfl, hb, b2, c2, rfl, hi⟩
                have HT2 := Lib.hid ((HT.out.alloc _).mono hb)
                have HI2 := Lib.hid hi
                clear hb hi
                go_wp2_with fail
                refine (ints_B _ _ _ 1 1 _ 1 [-(f : Int)] [-(f : Int)] rfl rfl (HI2.out.alloc _) (ints_new w2 [-(f : Int)] _) (by simp) (by simp) true (by simp)).mono ?_
                rintro e w3 ⟨v, rfl, hb, rfl⟩
                have HT3 := Lib.hid ((HT2.out.alloc _).mono hb)
                clear hb g2
                go_wp2_with fail
                refine (awake_ok _).mono ?_
                rintro e w4 ⟨v, rfl, hb, rfl⟩
                have HT4 := Lib.hid (HT3.out.mono hb)
                clear hb
                go_wp2_with fail
                go_ret
                exact ⟨_, rfl, HB.out.trans (HT4.out.below.mono HB.out.size), rfl⟩
              · have g2 : ((1 : Int) + (r : Int) != (f : Int)) = true := by rw [bne_iff_ne]; omega
                obtain ⟨v', w2, hrun, hO, hU, hf2⟩ := append_int (OwnI.lit wr [-(f : Int)] (by simp)) (-((1 : Int) + (r : Int))) (by simp)
                rw [World.size_alloc] at hrun
                obtain ⟨a2, c2, rfl, hi2, _⟩ := hO.slice
                have HR := Lib.hid hrun
                have HI2 : Hid (Ints w2 a2 c2 [-(f : Int), -((1 : Int) + (r : Int))]) := hi2
                have HT2 : Hid (TrB X.heap.size X w2 T (SR f d d f)) := HT.out.mono (((Below.refl wr.heap.size wr).alloc (Nat.le_refl _) _).trans (hU.below (B := wr.heap.size) (fun j hj hF => by
                  have e1 : wr.heap.size = j := Option.some.inj hF
                  omega) (by simp)))
                clear hrun hO hU hf2 hi2
                go_wp2_with (at_builtin; go_must (refine wpList_append_by (o := ⟨some 119, _, _, _, _, _⟩) rfl _ _ 29 rfl _ _ _ _ rfl rfl HR.out ?_))
                have hk1 : (-((1 : Int) + (r : Int))) = -((r + 1 : Nat) : Int) := by omega
                refine (analyze_row_B HT2.out HBT.out (SR_row f d h1 h8) (by omega) _ _ (r + 1) (by omega) (by omega) (-(f : Int)) (-((1 : Int) + (r : Int))) (.inl ⟨rfl, hk1⟩) HI2.out).mono ?_
                rintro e w3 ⟨v, rfl, hb, b3, c3, rfl, hi⟩
                rw [← hk1] at hi
                have HT3 := Lib.hid (HT2.out.mono hb)
                have HI3 := Lib.hid hi
                clear hb hi hk1
                go_wp2_with fail
                refine (ints_B _ _ _ 1 1 _ 1 [-((1 : Int) + (r : Int))] [-((1 : Int) + (r : Int))] rfl rfl ((HI3.out.alloc _).alloc _) (by have := ints_new (w3.alloc (.cells #[.int .i64 (-(f : Int))] 3)) [-((1 : Int) + (r : Int))] 3; rw [World.size_alloc] at this; exact this) (by simp) (by simp) true (by simp)).mono ?_
                rintro e w4 ⟨v, rfl, hb, rfl⟩
                have HT4 := Lib.hid (((HT3.out.alloc _).alloc _).mono hb)
                clear hb g2
                go_wp2_with fail
                refine (awake_ok _).mono ?_
                rintro e w5 ⟨v, rfl, hb, rfl⟩
                have HT5 := Lib.hid (HT4.out.mono hb)
                clear hb
                go_wp2_with fail
                go_ret
                exact ⟨_, rfl, HB.out.trans (HT5.out.below.mono HB.out.size), rfl⟩

/-- The law, whatever the input. -/
theorem row_walk (w : World) (n a at_ : Int) (hn : I64 n) (ha : I64 a) :
    Calls Tryz.prog 7 #[.int .i64 n, .int .i64 a, .int .i64 at_] w (Ret w fun v _ => v = .bool true) := by
  by_cases h1 : n < 1
  · go_enter Tryz.func7, Tryz.ntmps7
    go_wp2_with fail
    refine (awake_ok _).mono ?_
    rintro e w5 ⟨v, rfl, hb, rfl⟩
    have HB := Lib.hid hb
    clear hb
    go_wp2_with fail
    go_ret
    exact ⟨_, rfl, HB.out, rfl⟩
  · by_cases h8 : 8 < n
    · have e1 : decide (n < 1) = false := by simp; omega
      have e2 : decide ((8 : Int) < n) = true := by simp; omega
      go_enter Tryz.func7, Tryz.ntmps7
      go_wp2_with fail
      refine (awake_ok _).mono ?_
      rintro e w5 ⟨v, rfl, hb, rfl⟩
      have HB := Lib.hid hb
      clear hb
      go_wp2_with fail
      go_ret
      exact ⟨_, rfl, HB.out, rfl⟩
    · have e1 : decide (n < 1) = false := by simp; omega
      have e2 : decide ((8 : Int) < n) = false := by simp; omega
      by_cases h0 : a < 0
      · have e3 : decide (a < 0) = true := by simp; omega
        go_enter Tryz.func7, Tryz.ntmps7
        go_wp2_with fail
        refine (awake_ok _).mono ?_
        rintro e w5 ⟨v, rfl, hb, rfl⟩
        have HB := Lib.hid hb
        clear hb
        go_wp2_with fail
        go_ret
        exact ⟨_, rfl, HB.out, rfl⟩
      · by_cases h6 : 6 < a
        · have e3 : decide (a < 0) = false := by simp; omega
          have e4 : decide ((6 : Int) < a) = true := by simp; omega
          go_enter Tryz.func7, Tryz.ntmps7
          go_wp2_with fail
          refine (awake_ok _).mono ?_
          rintro e w5 ⟨v, rfl, hb, rfl⟩
          have HB := Lib.hid hb
          clear hb
          go_wp2_with fail
          go_ret
          exact ⟨_, rfl, HB.out, rfl⟩
        · obtain ⟨N, rfl⟩ : ∃ N : Nat, n = (N : Int) := ⟨n.toNat, by omega⟩
          obtain ⟨A, rfl⟩ : ∃ A : Nat, a = (A : Int) := ⟨a.toNat, by omega⟩
          exact row_main w N A at_ (by omega) (by omega) (by omega)
end Go.Proofs.YtodeddappmfphaaGreatDoor
