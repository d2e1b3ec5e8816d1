/- Walks of package nat: Minus, row, Times. -/
import Derived.Test.YtodeddappmfphaaGreatDoorNatB
namespace Go.Proofs.YtodeddappmfphaaGreatDoor
open Go.RowKit Go.Thd

set_option maxRecDepth 100000 in
theorem minus_any (w : World) (a a' : Option Addr) (c c' x y : Nat) (hx : Num w a c x) (hy : Num w a' c' y) (hn : nl x ≤ 65536) (hle : y ≤ x) :
    Calls Tryz.prog 258 #[.slice a (nl x) c, .slice a' (nl y) c'] w (Ret w fun v w' => ∃ a c, v = .slice a (nl (x - y)) c ∧ Num w' a c (x - y) ∧ Fresh w a) := by
  have hmk := fun w : World => make64 (nl x : Int) (nl x) rfl w (by omega)
  have hll := nl_mono hle
  go_enter Tryz.func258, Tryz.ntmps258
  go_wp2_with fail
  clear hmk
  go_loopw [15, 6] (fun v cv wr => ∃ (k c : Nat) (h : Nat → Nat), k ≤ nl x ∧ v = .int .i64 (k : Int) ∧ cv = .int .u64 (c : Int) ∧ c ≤ 1 ∧ (∀ i, i < k → h i < B64) ∧ val h k + val (dig y) k = val (dig x) k + c * B64 ^ k ∧ Below w.heap.size w wr ∧ Own wr w.heap.size (nl x) (fun i => .int .u64 (h i)))
    (fun v _ _ => nl x - (intOf v).toNat)
  case atStart => exact ⟨0, 0, fun _ => 0, by omega, rfl, rfl, by omega, by omega, rfl, (Below.refl _ _).alloc (Nat.le_refl _) _, Own.made _ _ _ _⟩
  case round =>
    obtain ⟨k, cr, h, hk, rfl, rfl, hcr, hh, hval, hB, hO⟩ := hrel
    have HV := Lib.hid hval
    have HH := Lib.hid hh
    clear hval hh
    by_cases hlt : k < nl x
    · obtain ⟨b, off, rfl, hb, hc⟩ := hx.u64s.resolve_left (by omega)
      have h1 : wr.cell? ⟨b, off + k, none⟩ = _ := (hB.cell (p := ⟨b, off + k, none⟩) hb).trans (hc k hlt)
      have h2 := hO.2.1 k (by omega)
      have h3 := hO.2.2 k
      clear hc
      obtain ⟨s, hs⟩ : ∃ s, (dig x k + B64 - dig y k - cr) % B64 = s := ⟨_, rfl⟩
      obtain ⟨t, ht⟩ : ∃ t, (if dig x k < dig y k + cr then 1 else 0) = t := ⟨_, rfl⟩
      have HS := minus_step HV.out (dig_lt _ _) (dig_lt _ _) hcr
      rw [hs, ht] at HS
      have HS' := Lib.hid HS
      have hs1 : s < B64 := by rw [← hs]; exact Nat.mod_lt _ B64_pos
      have ht1 : t ≤ 1 := by rw [← ht]; split <;> omega
      by_cases hlt' : k < nl y
      · obtain ⟨b', off', rfl, hb', hc'⟩ := hy.u64s.resolve_left (by omega)
        have h1' : wr.cell? ⟨b', off' + k, none⟩ = _ := (hB.cell (p := ⟨b', off' + k, none⟩) hb').trans (hc' k hlt')
        clear hc'
        have ha := sub64 (dig x k) (dig y k) cr _ _ _ _ _ rfl rfl rfl hcr hs ht wr
        clear hs ht HS
        go_wp2_with fail
        go_roundw
        case rel =>
          refine ⟨k + 1, _, _, hlt, by go_num, rfl, ht1, upd_lt HH.out hs1, HS'.out, hB.setCell (Nat.le_refl _) _, hO.setU k (by omega) _⟩
        case measure => simp [intOf]; omega
      · have ha := sub64 (dig x k) 0 cr (dig x k) (dig y k) cr _ _ rfl (by rw [dig_high (by omega)]; rfl) rfl hcr hs ht wr
        clear hs ht HS
        go_wp2_with fail
        go_roundw
        case rel =>
          refine ⟨k + 1, _, _, hlt, by go_num, rfl, ht1, upd_lt HH.out hs1, HS'.out, hB.setCell (Nat.le_refl _) _, hO.setU k (by omega) _⟩
        case measure => simp [intOf]; omega
    · obtain rfl : k = nl x := by omega
      go_wp2_with fail
      have hfin : val h (nl x) = x - y := by
        have e := HV.out
        have e1 := val_lt HH.out
        rw [val_dig_nl, val_dig_ge hll] at e
        have : cr = 0 := by
          refine Decidable.byContradiction fun h0 => ?_
          obtain rfl : cr = 1 := by omega
          omega
        subst this
        omega
      refine (trim_own h _ w.heap.size (nl x) (by omega) hO HH.out (x - y) hfin).mono ?_
      rintro e w' ⟨a2, c2, rfl, hN, hfr, rfl⟩
      go_wp2_with fail
      go_ret
      exact ⟨_, rfl, hB, _, _, rfl, hN, fun p hp => Nat.le_of_eq (hfr p hp).symm⟩

set_option maxRecDepth 100000 in
theorem row_any (w : World) (b N off cap : Nat) (O : Nat → Nat) (a : Option Addr) (c x k : Nat) (hO : Own w b N (fun i => .int .u64 (O i : Nat))) (hOl : ∀ i, i < N → O i < B64)
    (hx : Num w a c x) (hne : x = 0 ∨ ∀ p, a = some p → p.block ≠ b) (hfit : off + nl x + 1 ≤ N) (hN : N ≤ 1000000) (hk : k < B64)
    (hover : val (seg O off) (nl x + 1) + k * x < B64 ^ (nl x + 1)) :
    Calls Tryz.prog 243 #[.slice (some ⟨b, off, none⟩) (nl x + 1) cap, .slice a (nl x) c, .int .u64 (k : Int)] w fun e w' =>
      ∃ O' : Nat → Nat, e = .returned (.tuple #[]) ∧ Own w' b N (fun i => .int .u64 (O' i : Nat)) ∧ (∀ i, i < N → O' i < B64) ∧ (∀ i, i < off ∨ off + nl x < i → O' i = O i) ∧
        val (seg O' off) (nl x + 1) = val (seg O off) (nl x + 1) + k * x ∧ w.grownBy w' (some b) := by
  have HOV := Lib.hid hover
  clear hover
  go_enter Tryz.func243, Tryz.ntmps243
  go_wp2_with fail
  go_loopw [14, 6] (fun v cv wr => ∃ (i cr : Nat) (h : Nat → Nat), i ≤ nl x ∧ v = .int .i64 (i : Int) ∧ cv = .int .u64 (cr : Int) ∧ cr < B64 ∧ Own wr b N (fun i => .int .u64 (h i : Nat)) ∧ (∀ j, j < N → h j < B64) ∧ (∀ j, j < off ∨ off + i ≤ j → h j = O j) ∧
      val (seg h off) i + cr * B64 ^ i = val (seg O off) i + k * val (dig x) i ∧ w.grownBy wr (some b))
    (fun v _ _ => nl x - (intOf v).toNat)
  case atStart => exact ⟨0, 0, O, by omega, rfl, rfl, B64_pos, hO, hOl, fun _ _ => rfl, rfl, ⟨rfl, rfl, rfl, Nat.le_refl _, fun _ _ _ => rfl⟩⟩
  case round =>
    obtain ⟨i, cr, h, hi, rfl, rfl, hcr, hOr, hh, hsame, hval, hG⟩ := hrel
    have HV := Lib.hid hval
    have HH := Lib.hid hh
    have HS := Lib.hid hsame
    clear hval hh hsame
    by_cases hlt : i < nl x
    · obtain ⟨ba, offa, rfl, hb, hc⟩ := hx.u64s.resolve_left (by omega)
      have h1 : wr.cell? ⟨ba, offa + i, none⟩ = _ := hG.cell (hc i hlt) (by simpa using (hne.resolve_left (by intro h0; rw [h0, nl_zero] at hlt; omega)) _ rfl)
      have h2 := hOr.2.1 (off + i) (by omega)
      have h3 := hOr.2.2 (off + i)
      clear hc
      obtain ⟨hi', lo, l1, c1, nw, c2, e1, e2, e3, e4, e5, e6, b1, b2, b3, e7⟩ := row_arith (dig x i) k cr (h (off + i)) (dig_lt _ _) hk hcr (HH.out _ (by omega))
      have hc1 : c1 ≤ 1 := by rw [← e4]; exact carry_le (by rw [← e2]; exact Nat.mod_lt _ B64_pos) hcr (by omega)
      have HM := Lib.hid (mul64n (dig x i) k hi' lo (dig_lt _ _) hk e1 e2 wr)
      have ha1 := add64n lo cr 0 lo cr 0 l1 c1 rfl rfl rfl (by omega) e3 e4 wr
      have ha2 := add64n (h (off + i)) l1 0 (h (off + i)) l1 0 nw c2 rfl rfl rfl (by omega) e5 e6 wr
      have hw1 := wrap64_add hi' c1 b1
      have hw2 := wrap64_add (hi' + c1) c2 b2
      have HSt := Lib.hid (row_step HV.out (by rw [← HS.out (off + i) (by omega)]; exact e7))
      clear e1 e2 e3 e4 e5 e6 e7
      obtain ⟨h1s, hh1⟩ : ∃ h1s, hi' + c1 = h1s := ⟨_, rfl⟩
      obtain ⟨h2s, hh2⟩ : ∃ h2s, h1s + c2 = h2s := ⟨_, rfl⟩
      rw [hh1] at hw1 hw2 HSt b2
      rw [hh2] at hw2 HSt b2
      clear hh1 hh2
      go_wp2_with fail
      refine (HM.out).mono ?_
      rintro e w' ⟨rfl, rfl⟩
      go_wp2_with fail
      go_roundw
      case rel =>
        refine ⟨i + 1, h2s, upd h (off + i) nw, hlt, by go_num, rfl, b2, hOr.setU (off + i) (by omega) nw, ?_, ?_, HSt.out, ?_⟩
        · intro j hj
          by_cases e : j = off + i
          · subst e; rw [upd_same]; exact b3
          · rw [upd_other e]; exact HH.out j hj
        · intro j hj
          rw [upd_other (by omega)]
          exact HS.out j (by omega)
        · exact ⟨hG.os, hG.tape, hG.output, by simpa [World.setCell] using hG.size, fun j hj hne => by
            rw [Below.heap_setCell _ _ _ _ (by simpa using hne)]; exact hG.block j hj hne⟩
      case measure => simp [intOf]; omega
    · obtain rfl : i = nl x := by omega
      have h2 := hOr.2.1 (off + nl x) (by omega)
      have h3 := hOr.2.2 (off + nl x)
      have hb : h (off + nl x) + cr < B64 := by
        have e := HV.out
        have e1 := HOV.out
        rw [val_dig_nl] at e
        rw [val, Nat.pow_succ] at e1
        rw [HS.out (off + nl x) (by omega)]
        have e2 : seg O off (nl x) = O (off + nl x) := rfl
        rw [e2] at e1
        have e3 : (O (off + nl x) + cr) * B64 ^ nl x < B64 * B64 ^ nl x := by rw [Nat.add_mul, Nat.mul_comm B64]; omega
        exact Nat.lt_of_mul_lt_mul_right e3
      have hw := wrap64_add _ _ hb
      obtain ⟨s, hs⟩ : ∃ s, h (off + nl x) + cr = s := ⟨_, rfl⟩
      rw [hs] at hw hb
      have HSs := Lib.hid hs
      clear hs
      go_wp2_with fail
      go_end0
      refine ⟨rfl, upd h (off + nl x) s, hOr.setU (off + nl x) (by omega) s, ?_, ?_, ?_, ?_⟩
      · intro j hj
        by_cases e : j = off + nl x
        · subst e; rw [upd_same]; exact hb
        · rw [upd_other e]; exact HH.out j hj
      · intro j hj
        rw [upd_other (by omega)]
        exact HS.out j (by omega)
      · rw [val_upd_off, val, ← HSs.out]
        have e := HV.out
        rw [val_dig_nl] at e
        have e2 : seg O off (nl x) = O (off + nl x) := rfl
        rw [HS.out (off + nl x) (by omega), Nat.add_mul, e2]
        omega
      · exact ⟨hG.os, hG.tape, hG.output, by simpa [World.setCell] using hG.size, fun j hj hne => by
            rw [Below.heap_setCell _ _ _ _ (by simpa using hne)]; exact hG.block j hj hne⟩
end Go.Proofs.YtodeddappmfphaaGreatDoor
