/- Walks of package nat: Plus. -/
import Derived.Test.YtodeddappmfphaaGreatDoorNatA
import Derived.Test.YtodeddappmfphaaGreatDoorShelf
namespace Go.Proofs.YtodeddappmfphaaGreatDoor
open Go.RowKit Go.Thd

theorem info64 : (Tryz.prog.info? 107).map (fun i => (i.zero, i.size, i.bytes)) = some (some (.int .u64 0), 1, 8) := by kernel_rfl

theorem make64 (z : Int) (n : Nat) (hz : z = n) (w : World) (hn : n ≤ 1000000) : (Instr.makeSlice 42 (.int .i64 z) (.int .i64 z)).run Tryz.prog w =
    .ok (.slice (some ⟨w.heap.size, 0, none⟩) n n) (w.alloc (.cells (madeCells #[.int .u64 0] n) 107)) := by
  subst hz
  obtain ⟨i0, hi, hz0, hz1, hz2⟩ := info_parts info64
  have := run_make (P := Tryz.prog) w 42 107 i0 (.int .u64 0) Tryz.underlying42 hi hz0 .i64 .i64 n n (by omega) (by omega) (by rw [hz2]; omega) (by omega)
  simpa [hz1, Value.cells] using this

theorem add64 (X Y C : Int) (x y c : Nat) (hX : X = x) (hY : Y = y) (hC : C = c) (hc : c ≤ 1) (w : World) :
    (callFunc 169 #[.int .u64 X, .int .u64 Y, .int .u64 C]).run Tryz.prog w =
      .ok (.value (.tuple #[.int .u64 (((x + y + c) % B64 : Nat) : Int), .int .u64 (((x + y + c) / B64 : Nat) : Int)])) w := by
  subst hX; subst hY; subst hC
  rw [run_callFunc_extern (e := add64Entry) Tryz.func169 (by kernel_rfl) (by kernel_rfl) (by kernel_rfl) (by kernel_rfl), run_add64 x y c (by omega) (by omega) (by omega) (by omega)]
  simp only [Result.andThen, B64]
  congr 4

/-- trim, of a row of the call's own. -/
theorem trim_own (f : Nat → Nat) (w : World) (b n : Nat) (hn : n ≤ 1000000) (hO : Own w b n (fun i => .int .u64 (f i : Nat)))
    (hf : ∀ i, i < n → f i < B64) (x : Nat) (hx : val f n = x) :
    Calls Tryz.prog 196 #[.slice (some ⟨b, 0, none⟩) n n] w fun e w' =>
      ∃ a c, e = .returned (.slice a (nl x) c) ∧ Num w a c x ∧ (∀ p, a = some p → p.block = b) ∧ w = w' :=
  trim_num f w b 0 n n (by omega) (Nat.le_refl _) hO.1 (fun i hi => by rw [Nat.zero_add]; exact hO.2.1 i hi) hf x hx

set_option maxRecDepth 100000 in
theorem plus_main (w : World) (a a' : Option Addr) (c c' x y : Nat) (hx : Num w a c x) (hy : Num w a' c' y) (hn : nl x ≤ 65536) (hle : nl y ≤ nl x) :
    Calls Tryz.prog 257 #[.slice a (nl x) c, .slice a' (nl y) c'] w (Ret w fun v w' => ∃ a c, v = .slice a (nl (x + y)) c ∧ Num w' a c (x + y) ∧ Fresh w a) := by
  have hmk := fun w : World => make64 ((nl x : Int) + 1) (nl x + 1) (by omega) w (by omega)
  have hnlt : ¬ ((nl x : Int) < nl y) := by omega
  go_enter Tryz.func257, Tryz.ntmps257
  go_wp2_with fail
  clear hmk
  go_loopw [23, 6] (fun v cv wr => ∃ (k c : Nat) (h : Nat → Nat), k ≤ nl x ∧ v = .int .i64 (k : Int) ∧ cv = .int .u64 (c : Int) ∧ c ≤ 1 ∧ (∀ i, i < k → h i < B64) ∧ val h k + c * B64 ^ k = val (dig x) k + val (dig y) k ∧ Below w.heap.size w wr ∧ Own wr w.heap.size (nl x + 1) (fun i => .int .u64 (h i)))
    (fun v _ _ => nl x - (intOf v).toNat)
  case atStart => exact ⟨0, 0, fun _ => 0, by omega, rfl, rfl, by omega, by omega, rfl, (Below.refl _ _).alloc (Nat.le_refl _) _, Own.made _ _ _ _⟩
  case round =>
    obtain ⟨k, cr, h, hk, rfl, rfl, hcr, hh, hval, hB, hO⟩ := hrel
    have HV := Lib.hid hval
    have HH := Lib.hid hh
    clear hval hh
    by_cases hlt : k < nl x
    · obtain ⟨b, off, rfl, hb, hc⟩ := hx.u64s.resolve_left (by omega)
      have h1 : wr.cell? ⟨b, off + k, none⟩ = _ := (hB.cell (p := ⟨b, off + k, none⟩) hb).trans (hc k hlt)
      have h2 := hO.2.1 k (by omega)
      have h3 := hO.2.2 k
      clear hc
      by_cases hlt' : k < nl y
      · obtain ⟨b', off', rfl, hb', hc'⟩ := hy.u64s.resolve_left (by omega)
        have h1' : wr.cell? ⟨b', off' + k, none⟩ = _ := (hB.cell (p := ⟨b', off' + k, none⟩) hb').trans (hc' k hlt')
        clear hc'
        have ha := add64 (dig x k) (dig y k) cr _ _ _ rfl rfl rfl hcr wr
        go_wp2_with fail
        go_roundw
        case rel =>
          refine ⟨k + 1, _, _, hlt, by go_num, rfl, carry_le (dig_lt _ _) (dig_lt _ _) hcr, upd_lt HH.out (Nat.mod_lt _ B64_pos), plus_step HV.out, hB.setCell (Nat.le_refl _) _, hO.setU k (by omega) _⟩
        case measure => simp [intOf]; omega
      · have ha := add64 (dig x k) 0 cr (dig x k) (dig y k) cr rfl (by rw [dig_high (by omega)]; rfl) rfl hcr wr
        go_wp2_with fail
        go_roundw
        case rel =>
          refine ⟨k + 1, _, _, hlt, by go_num, rfl, carry_le (dig_lt _ _) (dig_lt _ _) hcr, upd_lt HH.out (Nat.mod_lt _ B64_pos), plus_step HV.out, hB.setCell (Nat.le_refl _) _, hO.setU k (by omega) _⟩
        case measure => simp [intOf]; omega
    · obtain rfl : k = nl x := by omega
      have h2 := hO.2.1 (nl x) (by omega)
      have h3 := hO.2.2 (nl x)
      go_wp2_with fail
      refine (trim_own (upd h (nl x) cr) _ w.heap.size (nl x + 1) (by omega) (hO.setU (nl x) (by omega) cr) (upd_lt HH.out (by have := B64_gt; omega)) (x + y) ?_).mono ?_
      · rw [val_upd, HV.out, val_dig_nl, val_dig_ge hle]
      rintro e w' ⟨a2, c2, rfl, hN, hfr, rfl⟩
      go_wp2_with fail
      go_ret
      exact ⟨_, rfl, hB.setCell (Nat.le_refl _) _, _, _, rfl, hN, fun p hp => Nat.le_of_eq (hfr p hp).symm⟩
set_option maxRecDepth 100000 in
theorem plus_swap (w : World) (a a' : Option Addr) (c c' x y : Nat) (hx : Num w a c x) (hy : Num w a' c' y) (hn : nl x ≤ 65536) (hlt0 : nl y < nl x) :
    Calls Tryz.prog 257 #[.slice a' (nl y) c', .slice a (nl x) c] w (Ret w fun v w' => ∃ a c, v = .slice a (nl (x + y)) c ∧ Num w' a c (x + y) ∧ Fresh w a) := by
  have hmk := fun w : World => make64 ((nl x : Int) + 1) (nl x + 1) (by omega) w (by omega)
  have hle : nl y ≤ nl x := by omega
  have hnlt : ((nl y : Int) < nl x) := by omega
  go_enter Tryz.func257, Tryz.ntmps257
  go_wp2_with fail
  clear hmk
  go_loopw [23, 6] (fun v cv wr => ∃ (k c : Nat) (h : Nat → Nat), k ≤ nl x ∧ v = .int .i64 (k : Int) ∧ cv = .int .u64 (c : Int) ∧ c ≤ 1 ∧ (∀ i, i < k → h i < B64) ∧ val h k + c * B64 ^ k = val (dig x) k + val (dig y) k ∧ Below w.heap.size w wr ∧ Own wr w.heap.size (nl x + 1) (fun i => .int .u64 (h i)))
    (fun v _ _ => nl x - (intOf v).toNat)
  case atStart => exact ⟨0, 0, fun _ => 0, by omega, rfl, rfl, by omega, by omega, rfl, (Below.refl _ _).alloc (Nat.le_refl _) _, Own.made _ _ _ _⟩
  case round =>
    obtain ⟨k, cr, h, hk, rfl, rfl, hcr, hh, hval, hB, hO⟩ := hrel
    have HV := Lib.hid hval
    have HH := Lib.hid hh
    clear hval hh
    by_cases hlt : k < nl x
    · obtain ⟨b, off, rfl, hb, hc⟩ := hx.u64s.resolve_left (by omega)
      have h1 : wr.cell? ⟨b, off + k, none⟩ = _ := (hB.cell (p := ⟨b, off + k, none⟩) hb).trans (hc k hlt)
      have h2 := hO.2.1 k (by omega)
      have h3 := hO.2.2 k
      clear hc
      by_cases hlt' : k < nl y
      · obtain ⟨b', off', rfl, hb', hc'⟩ := hy.u64s.resolve_left (by omega)
        have h1' : wr.cell? ⟨b', off' + k, none⟩ = _ := (hB.cell (p := ⟨b', off' + k, none⟩) hb').trans (hc' k hlt')
        clear hc'
        have ha := add64 (dig x k) (dig y k) cr _ _ _ rfl rfl rfl hcr wr
        go_wp2_with fail
        go_roundw
        case rel =>
          refine ⟨k + 1, _, _, hlt, by go_num, rfl, carry_le (dig_lt _ _) (dig_lt _ _) hcr, upd_lt HH.out (Nat.mod_lt _ B64_pos), plus_step HV.out, hB.setCell (Nat.le_refl _) _, hO.setU k (by omega) _⟩
        case measure => simp [intOf]; omega
      · have ha := add64 (dig x k) 0 cr (dig x k) (dig y k) cr rfl (by rw [dig_high (by omega)]; rfl) rfl hcr wr
        go_wp2_with fail
        go_roundw
        case rel =>
          refine ⟨k + 1, _, _, hlt, by go_num, rfl, carry_le (dig_lt _ _) (dig_lt _ _) hcr, upd_lt HH.out (Nat.mod_lt _ B64_pos), plus_step HV.out, hB.setCell (Nat.le_refl _) _, hO.setU k (by omega) _⟩
        case measure => simp [intOf]; omega
    · obtain rfl : k = nl x := by omega
      have h2 := hO.2.1 (nl x) (by omega)
      have h3 := hO.2.2 (nl x)
      go_wp2_with fail
      refine (trim_own (upd h (nl x) cr) _ w.heap.size (nl x + 1) (by omega) (hO.setU (nl x) (by omega) cr) (upd_lt HH.out (by have := B64_gt; omega)) (x + y) ?_).mono ?_
      · rw [val_upd, HV.out, val_dig_nl, val_dig_ge hle]
      rintro e w' ⟨a2, c2, rfl, hN, hfr, rfl⟩
      go_wp2_with fail
      go_ret
      exact ⟨_, rfl, hB.setCell (Nat.le_refl _) _, _, _, rfl, hN, fun p hp => Nat.le_of_eq (hfr p hp).symm⟩

theorem plus_any (w : World) (a a' : Option Addr) (c c' x y : Nat) (hx : Num w a c x) (hy : Num w a' c' y) (hn : nl x ≤ 65536) (hm : nl y ≤ 65536) :
    Calls Tryz.prog 257 #[.slice a (nl x) c, .slice a' (nl y) c'] w (Ret w fun v w' => ∃ a c, v = .slice a (nl (x + y)) c ∧ Num w' a c (x + y) ∧ Fresh w a) := by
  by_cases h : nl y ≤ nl x
  · exact plus_main w a a' c c' x y hx hy hn h
  · have := plus_swap w a' a c' c y x hy hx hm (by omega)
    rwa [Nat.add_comm y x] at this

def sub64Entry : Array Value → Sem Value := fun args => do
  let (x, y, b) ← Extern.MathBitsCarry.three "Sub64" args
  pure (Extern.MathBitsCarry.pair ((x + Extern.MathBitsCarry.m64 - y - b) % Extern.MathBitsCarry.m64) (if x < y + b then 1 else 0))

theorem run_sub64 {P : Program} (x y c : Nat) (hc : c ≤ 1) (w : World) :
    (sub64Entry #[.int .u64 (x : Int), .int .u64 (y : Int), .int .u64 (c : Int)]).run P w =
      .ok (.tuple #[.int .u64 (((x + B64 - y - c) % B64 : Nat) : Int), .int .u64 ((if x < y + c then 1 else 0 : Nat) : Int)]) w := by
  have : c = 0 ∨ c = 1 := by omega
  rcases this with rfl | rfl <;> rfl

theorem sub64 (X Y C : Int) (x y c s t : Nat) (hX : X = x) (hY : Y = y) (hC : C = c) (hc : c ≤ 1) (hs : (x + B64 - y - c) % B64 = s) (ht : (if x < y + c then 1 else 0) = t) (w : World) :
    (callFunc 236 #[.int .u64 X, .int .u64 Y, .int .u64 C]).run Tryz.prog w =
      .ok (.value (.tuple #[.int .u64 (s : Int), .int .u64 (t : Int)])) w := by
  subst hX; subst hY; subst hC; subst hs; subst ht
  rw [run_callFunc_extern (e := sub64Entry) Tryz.func236 (by kernel_rfl) (by kernel_rfl) (by kernel_rfl) (by kernel_rfl), run_sub64 x y c hc]
  simp only [Result.andThen]

/-- Add64, its answers by names. -/
theorem add64n (X Y C : Int) (x y c s t : Nat) (hX : X = x) (hY : Y = y) (hC : C = c) (hc : c ≤ 1) (hs : (x + y + c) % B64 = s) (ht : (x + y + c) / B64 = t) (w : World) :
    (callFunc 169 #[.int .u64 X, .int .u64 Y, .int .u64 C]).run Tryz.prog w =
      .ok (.value (.tuple #[.int .u64 (s : Int), .int .u64 (t : Int)])) w := by
  rw [add64 X Y C x y c hX hY hC hc, hs, ht]

theorem mul64n (x y hi lo : Nat) (hx : x < B64) (hy : y < B64) (hh : x * y / B64 = hi) (hl : x * y % B64 = lo) (w : World) :
    Calls Tryz.prog 168 #[.int .u64 (x : Int), .int .u64 (y : Int)] w fun e w' => e = .returned (.tuple #[.int .u64 (hi : Int), .int .u64 (lo : Int)]) ∧ w = w' := by
  refine (Tryz.bits_Mul64 x y hx hy w).mono ?_
  rintro e w' ⟨rfl, rfl⟩
  subst hh; subst hl
  exact ⟨rfl, rfl⟩

theorem wrap64_add (a b : Nat) (h : a + b < B64) : IntKind.u64.wrap ((a : Int) + (b : Int)) = ((a + b : Nat) : Int) := by
  rw [IntKind.wrap_u64]
  unfold B64 at h
  omega

end Go.Proofs.YtodeddappmfphaaGreatDoor
