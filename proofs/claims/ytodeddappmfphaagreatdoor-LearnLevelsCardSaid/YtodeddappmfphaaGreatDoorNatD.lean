/- Walks of package nat: Times, Of, Quot by one limb, Common. -/
import Derived.Test.YtodeddappmfphaaGreatDoorNatC
namespace Go.Proofs.YtodeddappmfphaaGreatDoor
open Go.RowKit Go.Thd

set_option maxRecDepth 100000 in
theorem times_any (w : World) (a a' : Option Addr) (c c' x y : Nat) (hx : Num w a c x) (hy : Num w a' c' y) (hn : nl x ≤ 65536) (hm : nl y ≤ 65536) :
    Calls Tryz.prog 220 #[.slice a (nl x) c, .slice a' (nl y) c'] w (Ret w fun v w' => ∃ a c, v = .slice a (nl (x * y)) c ∧ Num w' a c (x * y) ∧ Fresh w a) := by
  have hmk := fun w : World => make64 ((nl x : Int) + nl y + 1) (nl x + nl y + 1) (by omega) w (by omega)
  go_enter Tryz.func220, Tryz.ntmps220
  go_wp2_with fail
  clear hmk
  go_loopw [17] (fun v wr => ∃ (i : Nat) (O : Nat → Nat), i ≤ nl y ∧ v = .int .i64 (i : Int) ∧ Own wr w.heap.size (nl x + nl y + 1) (fun i => .int .u64 (O i : Nat)) ∧ (∀ j, j < nl x + nl y + 1 → O j < B64) ∧ val O (nl x + nl y + 1) = x * val (dig y) i ∧ Below w.heap.size w wr)
    (fun v _ => nl y - (intOf v).toNat)
  case atStart =>
    refine ⟨0, fun _ => 0, by omega, rfl, Own.made _ _ _ _, fun _ _ => B64_pos, ?_, (Below.refl _ _).alloc (Nat.le_refl _) _⟩
    rw [val, Nat.mul_zero]
    generalize nl x + nl y + 1 = m
    induction m with
    | zero => rfl
    | succ m ih => rw [val, ih]; simp
  case round =>
    obtain ⟨i, O, hi, rfl, hO, hl, hv, hB⟩ := hrel
    have HV := Lib.hid hv
    have HL := Lib.hid hl
    clear hv hl
    by_cases hlt : i < nl y
    · obtain ⟨b', off', rfl, hb', hc'⟩ := hy.u64s.resolve_left (by omega)
      have h1' : wr.cell? ⟨b', off' + i, none⟩ = _ := (hB.cell (p := ⟨b', off' + i, none⟩) hb').trans (hc' i hlt)
      clear hc'
      have HC := Lib.hid (row_any wr w.heap.size (nl x + nl y + 1) i (nl x + nl y + 1 - i) O a c x (dig y i) hO HL.out (hx.mono hB)
        (by
          rcases hx.2 with h | ⟨b, off, ha, hlt, _⟩
          · exact .inl h
          · exact .inr fun p hp => by rw [ha] at hp; injection hp with hp; subst hp; exact Nat.ne_of_lt hlt)
        (by omega) (by omega) (dig_lt _ _) (times_over HV.out (val_lt fun _ _ => dig_lt _ _) (dig_lt _ _) (lt_pow_nl x) (by omega)))
      go_wp2_with fail
      rw [show i + nl x + 1 - i = nl x + 1 from by omega]
      refine (HC.out).mono ?_
      rintro e w' ⟨O', rfl, hO', hl', hs', hv', hg'⟩
      have HV' := Lib.hid hv'
      have HL' := Lib.hid hl'
      have HS' := Lib.hid hs'
      clear hv' hl' hs'
      go_wp2_with fail
      go_roundw
      case rel =>
        refine ⟨i + 1, O', hlt, by go_num, hO', HL'.out, ?_, hB.grown hg' hB.size (by intro k hk; injection hk with hk; omega)⟩
        rw [val_seg_change (off := i) (m := nl x + 1) (fun j hj => HS'.out j (by omega)) HV'.out (by omega), HV.out, val, Nat.mul_add]
        congr 1
        rw [Nat.mul_comm, Nat.mul_comm (dig y i), Nat.mul_assoc]
      case measure => simp [intOf]; omega
    · obtain rfl : i = nl y := by omega
      go_wp2_with fail
      refine (trim_own O _ w.heap.size (nl x + nl y + 1) (by omega) hO HL.out (x * y) (by rw [HV.out, val_dig_nl])).mono ?_
      rintro e w' ⟨a2, c2, rfl, hN, hfr, rfl⟩
      go_wp2_with fail
      go_ret
      exact ⟨_, rfl, hB, _, _, rfl, hN, fun p hp => Nat.le_of_eq (hfr p hp).symm⟩

theorem natOf_pos (n : Int) (w : World) (h0 : 0 < n) (h1 : n < 9223372036854775808) :
    Calls Tryz.prog 164 #[.int .i64 n] w (Ret w fun v w' => ∃ a c, v = .slice a (nl n.toNat) c ∧ Num w' a c n.toNat ∧ Fresh w a) := by
  have hb : n.toNat < B64 := by unfold B64; omega
  have hw : IntKind.u64.wrap n = n := by rw [IntKind.wrap_u64]; omega
  have hle : ¬ (n ≤ 0) := by omega
  clear h1 h0
  have HB := Lib.hid hb
  clear hb
  go_enter Tryz.func164, Tryz.ntmps164
  go_wp2_with fail
  go_ret
  have hnl : nl n.toNat = 1 := nl_small (by omega) HB.out
  refine ⟨_, rfl, (Below.refl _ _).alloc (Nat.le_refl _) _, some ⟨w.heap.size, 0, none⟩, 1, by rw [hnl]; rfl, ⟨by rw [hnl]; exact Nat.le_refl _, .inr ⟨_, _, rfl, by simp, fun i hi => ?_⟩⟩, fun p hp => by injection hp with hp; subst hp; exact Nat.le_refl _⟩
  obtain rfl : i = 0 := by omega
  have hd : ((dig n.toNat 0 : Nat) : Int) = n := by rw [dig_zero HB.out]; omega
  rw [hd]
  simp [go_sem]

theorem natOf_nil (n : Int) (w : World) (h0 : n ≤ 0) :
    Calls Tryz.prog 164 #[.int .i64 n] w fun e w' => e = .returned (.slice none 0 0) ∧ w = w' := by
  go_enter Tryz.func164, Tryz.ntmps164
  go_wp2_with fail
  go_ret
  exact ⟨rfl, rfl⟩

theorem ratOne (w : World) :
    Calls Tryz.prog 120 #[] w (Ret w fun v w' => ∃ a c, v = .slice a 1 c ∧ Num w' a c 1 ∧ Fresh w a) := by
  go_enter Tryz.func120, Tryz.ntmps120
  go_wp2_with fail
  refine (natOf_pos 1 _ (by omega) (by omega)).mono ?_
  rintro e w' ⟨v, rfl, hb, a, c, rfl, hN, hF⟩
  have h1 : nl (1 : Int).toNat = 1 := nl_small (by decide) B64_gt
  rw [h1]
  go_wp2_with fail
  go_ret
  exact ⟨_, rfl, hb, a, c, rfl, hN, hF⟩

set_option maxRecDepth 100000 in
theorem div64_low (lo y : Nat) (w : World) (hy : 0 < y) (hlo : lo < B64) :
    Calls Tryz.prog 227 #[.int .u64 0, .int .u64 (lo : Int), .int .u64 (y : Int)] w fun e w' => e = .returned (.tuple #[.int .u64 ((lo / y : Nat) : Int), .int .u64 ((lo % y : Nat) : Int)]) ∧ ∃ nq, w' = w.drewN nq := by
  have h0 : ((y : Int) == 0) = false := by simp; omega
  have h1 : ¬ ((y : Int) ≤ 0) := by omega
  have HW : Hid (IntKind.u64.wrap ((lo : Int) / (y : Int)) = ((lo / y : Nat) : Int)) := by
    show IntKind.u64.wrap ((lo : Int) / (y : Int)) = ((lo / y : Nat) : Int)
    rw [IntKind.wrap_u64, ← Int.natCast_ediv]
    have := Nat.lt_of_le_of_lt (Nat.div_le_self lo y) hlo
    unfold B64 at this
    generalize lo / y = q at *
    omega
  clear hlo
  go_enter Tryz.func227, Tryz.ntmps227
  go_wp2_with fail
  go_quiet (fail)
  go_wp2_with fail
  go_ret2
  refine ⟨?_, _, rfl⟩
  show Ending.returned (.tuple #[.int .u64 (IntKind.u64.wrap ((lo : Int) / (y : Int))), .int .u64 ((lo : Int) % (y : Int))]) = _
  rw [HW.out]
  rfl

set_option maxRecDepth 100000 in
/-- Another slice of the same limbs. -/
theorem clone_u64 (w : World) (a : Option Addr) (n c : Nat) (f : Nat → Nat) (hU : U64s w a n f) (hn : n ≤ 1000000) :
    Calls Tryz.prog 150 #[.slice a n c] w (Ret w fun v w' => ∃ a' c', v = .slice a' n c' ∧ n ≤ c' ∧ U64s w' a' n f ∧ Fresh w a') := by
  have hq := fun w : World => Lib.run_eql_slice_nil (P := Tryz.prog) w 42 107 a n c 0 0 Tryz.underlying42
  obtain ⟨i0, hi, hz0, hz1, hz2⟩ := info_parts info64
  cases a with
  | none =>
    have hn0 : n = 0 := by
      rcases hU with h | ⟨b, off, h, _⟩
      · exact h
      · cases h
    subst hn0
    go_enter Tryz.func150, Tryz.ntmps150
    go_wp2_with fail
    go_ret
    exact ⟨_, rfl, Below.refl _ _, none, 0, rfl, Nat.le_refl _, .inl rfl, Fresh.none _⟩
  | some p =>
    have hnews : ∀ j u, ((List.range n).map (fun i => Value.int .u64 (f i : Nat)))[j]? = some u → (w.alloc (.cells #[] 107)).cell? (p.add j) = some u := by
      intro j u hj
      rcases hU with h | ⟨b, off, h, hlt, hc⟩
      · subst h; simp at hj
      · injection h with h; subst h
        have hjn : j < n := by
          refine Decidable.byContradiction fun hge => ?_
          rw [List.getElem?_eq_none (by simp; omega)] at hj
          cases hj
        rw [List.getElem?_map, List.getElem?_range hjn] at hj
        simp at hj
        subst hj
        have hB := (Below.refl w.heap.size w).alloc (Nat.le_refl _) (.cells #[] 107)
        have : (⟨b, off, none⟩ : Addr).add j = ⟨b, off + j, none⟩ := by unfold Addr.add; split <;> simp_all
        rw [this]
        exact (hB.cell (p := ⟨b, off + j, none⟩) hlt).trans (hc j hjn)
    have hown := World.ownsRow_lit (base := w.heap.size) (e := 107) (size := 1) w #[] 0 (Nat.le_refl _) (by decide) rfl
    obtain ⟨v', w', hrun, hown', hgrow, _⟩ := run_append_own (P := Tryz.prog) (w.alloc (.cells #[] 107)) w.heap.size 42 42 107 i0 (.int .u64 0) 1 8 Tryz.underlying42 hi hz0 hz1 hz2 rfl (by decide)
      _ 0 _ hown p n c ((List.range n).map (fun i => Value.int .u64 (f i : Nat))) (by simp) hnews (by intro u hu; simp at hu; obtain ⟨i, _, rfl⟩ := hu; rfl) (by unfold maxLen; omega) (by omega) (by simp)
    rw [Nat.zero_add] at hown'
    obtain ⟨a', c', rfl, hcc, hcase⟩ := ownsRow_cells (vals := fun i => Value.int .u64 (f i : Nat)) hown'
    have hB : Below w.heap.size w w' := ((Below.refl w.heap.size w).alloc (Nat.le_refl _) (.cells #[] 107)).grown hgrow (by simp) (by intro k hk; simp [Value.ownBlock] at hk; omega)
    clear hown hown' hgrow hnews
    have HR := Lib.hid hrun
    clear hrun
    go_enter Tryz.func150, Tryz.ntmps150
    go_wp2_with (at_builtin; go_must (refine wpList_append_by rfl _ _ 42 rfl _ _ _ _ rfl rfl HR.out ?_))
    go_ret
    rcases hcase with ⟨hv, h⟩ | ⟨b, ha, hbb, hlt, hc, _⟩
    · refine ⟨_, rfl, hB, a', c', rfl, hcc, .inl h, ?_⟩
      injection hv with hv; subst hv; exact Fresh.none _
    · exact ⟨_, rfl, hB, a', c', rfl, hcc, .inr ⟨b, 0, ha, hlt, fun i hi => by rw [Nat.zero_add]; exact hc i hi⟩, fun p hp => by rw [ha] at hp; injection hp with hp; subst hp; exact hbb⟩

theorem clone_num (w : World) (a : Option Addr) (c x : Nat) (hx : Num w a c x) (hn : nl x ≤ 1000000) :
    Calls Tryz.prog 150 #[.slice a (nl x) c] w (Ret w fun v w' => ∃ a' c', v = .slice a' (nl x) c' ∧ Num w' a' c' x ∧ Fresh w a') := by
  refine (clone_u64 w a (nl x) c _ hx.u64s hn).mono ?_
  rintro e w' ⟨v, rfl, hb, a', c', rfl, hc, hU, hF⟩
  refine ⟨_, rfl, hb, a', c', rfl, ⟨hc, ?_⟩, hF⟩
  rcases hU with h | h
  · exact .inl (nl_eq_zero.1 h)
  · exact .inr h

/-- trim of what is a number already. -/
theorem trim_self (w : World) (a : Option Addr) (c x : Nat) (hx : Num w a c x) (hn : nl x ≤ 1000000) :
    Calls Tryz.prog 196 #[.slice a (nl x) c] w (RetS w fun v => ∃ a' c', v = .slice a' (nl x) c' ∧ Num w a' c' x) := by
  rcases hx.2 with rfl | ⟨b, off, rfl, hlt, hc⟩
  · rw [nl_zero]
    go_enter Tryz.func196, Tryz.ntmps196
    go_wp2_with fail
    go_loop [0] (fun v => v = .slice a 0 c) (fun _ => 0)
    case atStart => rfl
    case round =>
      subst hrel
      go_wp2_with fail
      go_ret
      exact ⟨_, rfl, rfl, none, 0, rfl, Num.zero _ _ _⟩
  · refine (trim_num (dig x) w b off (nl x) c (by omega) hx.1 hlt hc (fun i _ => dig_lt _ _) x (val_dig_nl x)).mono ?_
    rintro e w' ⟨a', c', rfl, hN, _, rfl⟩
    exact ⟨_, rfl, rfl, a', c', rfl, hN⟩

set_option maxRecDepth 100000 in
theorem byLimb_small (w : World) (a : Option Addr) (c x k : Nat) (hx : Num w a c x) (hxB : x < B64) (hk : 0 < k) :
    Calls Tryz.prog 188 #[.slice a (nl x) c, .int .u64 (k : Int)] w (Ret w fun v w' => ∃ a c, v = .tuple #[.slice a (nl (x / k)) c, .int .u64 ((x % k : Nat) : Int)] ∧ Num w' a c (x / k) ∧ Fresh w a) := by
  have HX := Lib.hid hxB
  clear hxB
  by_cases h0 : x = 0
  · subst h0
    have HZ := Lib.hid nl_zero
    have hmk := fun w : World => make64 0 0 (by rfl) w (by omega)
    rw [nl_zero]
    have HD : Hid (0 / k = 0 ∧ 0 % k = 0) := ⟨Nat.zero_div _, Nat.zero_mod _⟩
    go_enter Tryz.func188, Tryz.ntmps188
    go_wp2_with fail
    clear hmk
    go_loopw [6, 5] (fun v r wr => v = .int .i64 (-1) ∧ r = .int .u64 0 ∧ wr = w.alloc (.cells (madeCells #[.int .u64 0] 0) 107)) (fun _ _ _ => 0)
    case atStart => exact ⟨rfl, rfl, rfl⟩
    case round =>
      obtain ⟨rfl, rfl, rfl⟩ := hrel
      go_wp2_with fail
      refine (trim_own (fun _ => 0) _ w.heap.size 0 (by omega) (Own.made _ _ _ _) (by omega) 0 rfl).mono ?_
      rintro e w' ⟨a2, c2, rfl, hN, hfr, rfl⟩
      go_wp2_with fail
      go_ret2
      rw [HD.out.1, HD.out.2]
      rw [HZ.out] at *
      exact ⟨_, rfl, (Below.refl _ _).alloc (Nat.le_refl _) _, _, _, rfl, hN, fun p hp => Nat.le_of_eq (hfr p hp).symm⟩
  · obtain ⟨b, off, rfl, hlt, hc⟩ := hx.2.resolve_left h0
    have hnl := nl_small h0 HX.out
    have hc0 := hc 0 (by omega)
    rw [dig_zero HX.out] at hc0
    rw [hnl]
    have hmk := fun w : World => make64 1 1 (by rfl) w (by omega)
    clear hc
    have HN := Lib.hid hnl
    clear hnl
    go_enter Tryz.func188, Tryz.ntmps188
    go_wp2_with fail
    clear hmk
    go_loopw [6, 5] (fun v r wr => Below w.heap.size w wr ∧ ∃ O : Nat → Nat, Own wr w.heap.size 1 (fun i => .int .u64 (O i : Nat)) ∧ (v = .int .i64 0 ∧ r = .int .u64 0 ∨ v = .int .i64 (-1) ∧ r = .int .u64 ((x % k : Nat) : Int) ∧ O 0 = x / k)) (fun v _ _ => (intOf v + 1).toNat)
    case atStart => exact ⟨(Below.refl _ _).alloc (Nat.le_refl _) _, fun _ => 0, Own.made _ _ _ _, .inl ⟨rfl, rfl⟩⟩
    case round =>
      obtain ⟨hB, O, hO, ⟨rfl, rfl⟩ | ⟨rfl, rfl, h00⟩⟩ := hrel
      · have h1 : wr.cell? ⟨b, off, none⟩ = _ := (hB.cell (p := ⟨b, off, none⟩) hlt).trans hc0
        have h2 := hO.2.1 0 (by omega)
        have h3 := hO.2.2 0
        clear hc0
        obtain ⟨q, hq⟩ : ∃ q, x / k = q := ⟨_, rfl⟩
        obtain ⟨r, hr⟩ : ∃ r, x % k = r := ⟨_, rfl⟩
        have HD := div64_low x k wr hk HX.out
        rw [hq, hr] at HD ⊢
        have HD' := Lib.hid HD
        clear HD hq hr
        go_wp2_with fail
        refine HD'.out.mono ?_
        rintro e w' ⟨rfl, nq, rfl⟩
        go_wp2_with fail
        go_roundw
        case rel => exact ⟨(hB.drewN nq).setCell (Nat.le_refl _) _, upd O 0 q, (hO.drewN nq).setU 0 (by omega) q, .inr ⟨rfl, rfl, upd_same _ _ _⟩⟩
        case measure => simp [intOf]
      · have HH := Lib.hid h00
        clear h00
        have hlt' : x / k < B64 := Nat.lt_of_le_of_lt (Nat.div_le_self _ _) HX.out
        have HLT := Lib.hid hlt'
        clear hlt'
        go_wp2_with fail
        refine (trim_own O _ w.heap.size 1 (by omega) hO (by intro i hi; obtain rfl : i = 0 := (by omega); have := HLT.out; rw [← HH.out] at this; exact this) (x / k) (by simp [val, HH.out])).mono ?_
        rintro e w' ⟨a2, c2, rfl, hN, hfr, rfl⟩
        go_wp2_with fail
        go_ret2
        exact ⟨_, rfl, hB, _, _, rfl, hN, fun p hp => Nat.le_of_eq (hfr p hp).symm⟩
end Go.Proofs.YtodeddappmfphaaGreatDoor
