/- clause.Order; sorting of at most two. -/
import Derived.Deep.RegionWith
import Derived.Test.YtodeddappmfphaaGreatDoorNatA
import Derived.Test.YtodeddappmfphaaGreatDoorTra
import Derived.Test.YtodeddappmfphaaGreatDoorLil
import Derived.Test.YtodeddappmfphaaGreatDoorReg
namespace Go.Proofs.YtodeddappmfphaaGreatDoor
open Go.RowKit Go.Thd

theorem or_two (w : World) (b c : Nat) (x y : Int) (h0 : w.cell? ⟨b, 0, none⟩ = some (.int .i64 x)) (h1 : w.cell? ⟨b, 1, none⟩ = some (.int .i64 y)) :
    Calls Tryz.prog 172 #[.slice (some ⟨b, 0, none⟩) 2 c] w (RetS w fun v => v = .int .i64 (if x = 0 then y else x)) := by
  by_cases hx : x = 0
  · subst hx
    rw [if_pos rfl]
    by_cases hy : y = 0
    · subst hy
      go_enter Tryz.func172, Tryz.ntmps172
      go_wp2_with fail
      refine wp_loop_rounds 3 ?_
      rw [rounds_succ]
      go_wp2_with fail
      rw [rounds_succ]
      go_wp2_with fail
      rw [rounds_succ]
      go_wp2_with fail
      go_ret
      exact ⟨_, rfl, rfl, rfl⟩
    · have hb : (y != 0) = true := by simpa using hy
      clear hy
      go_enter Tryz.func172, Tryz.ntmps172
      go_wp2_with fail
      refine wp_loop_rounds 2 ?_
      rw [rounds_succ]
      go_wp2_with fail
      rw [rounds_succ]
      go_wp2_with fail
      go_ret
      exact ⟨_, rfl, rfl, rfl⟩
  · rw [if_neg hx]
    have hb : (x != 0) = true := by simpa using hx
    clear hx
    go_enter Tryz.func172, Tryz.ntmps172
    go_wp2_with fail
    refine wp_loop_rounds 1 ?_
    rw [rounds_succ]
    go_wp2_with fail
    go_ret
    exact ⟨_, rfl, rfl, rfl⟩

/-- How two literals stand: by size, the positive one first. -/
def ordL (a b : Int) : Int := if cmpI a.natAbs b.natAbs = 0 then Lib.compareInt b a else cmpI a.natAbs b.natAbs

set_option maxRecDepth 100000 in
theorem order_any (w : World) (a b : Int) (ha : I64 a) (hb : I64 b) : Calls Tryz.prog 134 #[.int .i64 a, .int .i64 b] w (Ret w fun v _ => v = .int .i64 (ordL a b)) := by
  have HO : Hid (ordL a b = if cmpI a.natAbs b.natAbs = 0 then Lib.compareInt b a else cmpI a.natAbs b.natAbs) := rfl
  rw [HO.out]
  clear HO
  generalize hz : cmpI ((a.natAbs : Nat) : Int) ((b.natAbs : Nat) : Int) = z
  generalize hu : Lib.compareInt b a = u
  generalize hzz : (if z = 0 then u else z) = zz
  have HZ := Lib.hid hz
  have HU := Lib.hid hu
  have HZZ := Lib.hid hzz
  clear hz hu hzz
  go_enter Tryz.func134, Tryz.ntmps134
  go_wp2_with fail
  with_reducible refine (size_any w a ha).mono ?_
  rintro e w' ⟨v, rfl, rfl, rfl⟩
  go_wp2_with fail
  with_reducible refine (size_any w b hb).mono ?_
  rintro e w' ⟨v, rfl, rfl, rfl⟩
  go_wp2_with fail
  with_reducible refine (cmpU_any _ _ w).mono ?_
  rintro e w' ⟨rfl, q, rfl⟩
  rw [HZ.out]
  go_wp2_with fail
  with_reducible refine (Tryz.cmp_Compare_int b a _).mono ?_
  rintro e w' ⟨rfl, rfl⟩
  rw [HU.out]
  have hh : ((w.drewN q).alloc (.cells #[.int .i64 z, .int .i64 u] 3)).heap[w.heap.size]? = some (.cells #[.int .i64 z, .int .i64 u] 3) := heap_alloc_new (w.drewN q) _
  have k0 : ((w.drewN q).alloc (.cells #[.int .i64 z, .int .i64 u] 3)).cell? ⟨w.heap.size, 0, none⟩ = some (.int .i64 z) := by simp only [World.cell?, hh]; rfl
  have k1 : ((w.drewN q).alloc (.cells #[.int .i64 z, .int .i64 u] 3)).cell? ⟨w.heap.size, 1, none⟩ = some (.int .i64 u) := by simp only [World.cell?, hh]; rfl
  have HOr := or_two _ _ 2 z u k0 k1
  have HBB : Hid (Below w.heap.size w ((w.drewN q).alloc (.cells #[.int .i64 z, .int .i64 u] 3))) := ((Below.refl _ _).drewN _).alloc (Nat.le_refl _) _
  clear hh k0 k1
  rw [HZZ.out] at HOr
  replace HOr := Lib.hid HOr
  go_wp2_with fail
  with_reducible refine HOr.out.mono ?_
  rintro e w' ⟨v, rfl, rfl, rfl⟩
  go_wp2_with fail
  go_ret
  exact ⟨_, rfl, HBB.out, rfl⟩

/-- What two elements become. -/
def sort2 (x y : Int) : Int × Int := if ordL y x < 0 then (y, x) else (x, y)

set_option maxRecDepth 100000 in
theorem insert_few (w : World) (a : Option Addr) (n c : Nat) (hn : n ≤ 1) : Calls Tryz.prog 207 #[.slice a n c, .int .i64 0, .int .i64 (n : Nat), .func (.func 134) #[] #[]] w (RetS w fun v => v = .tuple #[]) := by
  go_enter Tryz.func207, Tryz.ntmps207
  go_wp2_with fail
  refine wp_loop_rounds 1 ?_
  rw [rounds_succ]
  have h1 : ((1 : Int) < (n : Int)) = False := by simp; omega
  go_wp2_with fail
  exact bodyPost_end (v := .tuple #[]) (by simp [results, Tryz.results207, go_sem]) rfl ⟨_, rfl, rfl, rfl⟩

set_option maxRecDepth 100000 in
theorem insert_two (w : World) (b c : Nat) (x y : Int) (hx : I64 x) (hy : I64 y) (h0 : w.cell? ⟨b, 0, none⟩ = some (.int .i64 x)) (h1 : w.cell? ⟨b, 1, none⟩ = some (.int .i64 y)) (hf : ∀ o, w.frozen? ⟨b, o, none⟩ = false) :
    Calls Tryz.prog 207 #[.slice (some ⟨b, 0, none⟩) 2 c, .int .i64 0, .int .i64 2, .func (.func 134) #[] #[]] w
      fun e w' => e = .returned (.tuple #[]) ∧ Upd (· = b) w w' ∧ w'.cell? ⟨b, 0, none⟩ = some (.int .i64 (sort2 x y).1) ∧ w'.cell? ⟨b, 1, none⟩ = some (.int .i64 (sort2 x y).2) ∧ ∀ o, w'.frozen? ⟨b, o, none⟩ = false := by
  obtain ⟨hlt, _⟩ : b < w.heap.size ∧ True := ⟨World.block_lt_of_cell? w ⟨b, 0, none⟩ h0, trivial⟩
  have hwz : IntKind.i64.wrap 0 = 0 := by decide
  go_enter Tryz.func207, Tryz.ntmps207
  go_wp2_with fail
  refine wp_loop_rounds 2 ?_
  rw [rounds_succ]
  go_wp2_with fail
  refine wp_loop_rounds 2 ?_
  rw [rounds_succ]
  go_wp2_with fail
  refine startD (Below w.heap.size w) (fun j => false) 17 #[false, false, false, false, false, false, false, false, false, false, false, false, false, false, false, false, false] (by kernel_rfl) rfl rfl ((Below.refl _ _).drew) (fun hS => ?_)
  refine' takeP 0 16 (some 18) #[true, false, false, false, false, false, false, false, false, false, false, false, false, false, false, false, false] (v := _) rfl rfl rfl (by kernel_rfl) (by kernel_rfl) (by kernel_rfl) rfl (fun _ _ _ h => h) rfl hS (fun wz hz => ?y0) ?r0
  case y0 => (go_simp; try with_reducible rfl)
  try simp only [Act.put, List.setIfInBounds_toArray, List.set_cons_zero, List.set_cons_succ]
  refine' takeP 1 15 (some 19) #[true, true, false, false, false, false, false, false, false, false, false, false, false, false, false, false, false] (v := _) rfl rfl rfl (by kernel_rfl) (by kernel_rfl) (by kernel_rfl) rfl (fun _ _ _ h => h) rfl hS (fun wz hz => ?y1) ?r1
  case y1 => (go_simp; try with_reducible rfl)
  try simp only [Act.put, List.setIfInBounds_toArray, List.set_cons_zero, List.set_cons_succ]
  refine' takeP 2 14 (some 20) #[true, true, true, false, false, false, false, false, false, false, false, false, false, false, false, false, false] (v := _) rfl rfl rfl (by kernel_rfl) (by kernel_rfl) (by kernel_rfl) rfl (fun _ _ _ h => h) rfl hS (fun wz hz => ?y2) ?r2
  case y2 => (go_simp; try with_reducible rfl)
  try simp only [Act.put, List.setIfInBounds_toArray, List.set_cons_zero, List.set_cons_succ]
  refine' takeP 3 13 (some 21) #[true, true, true, true, false, false, false, false, false, false, false, false, false, false, false, false, false] (v := _) rfl rfl rfl (by kernel_rfl) (by kernel_rfl) (by kernel_rfl) rfl (fun _ _ _ h => h) rfl hS (fun wz hz => ?y3) ?r3
  case y3 => (go_simp; try with_reducible rfl)
  try simp only [Act.put, List.setIfInBounds_toArray, List.set_cons_zero, List.set_cons_succ]
  refine' takeP 4 12 (some 22) #[true, true, true, true, true, false, false, false, false, false, false, false, false, false, false, false, false] (v := _) rfl rfl rfl (by kernel_rfl) (by kernel_rfl) (by kernel_rfl) rfl (fun _ _ _ h => h) rfl hS (fun wz hz => ?y4) ?r4
  case y4 => (go_simp; try with_reducible rfl)
  try simp only [Act.put, List.setIfInBounds_toArray, List.set_cons_zero, List.set_cons_succ]
  refine' takeP 5 11 (some 23) #[true, true, true, true, true, true, false, false, false, false, false, false, false, false, false, false, false] (v := _) rfl rfl rfl (by kernel_rfl) (by kernel_rfl) (by kernel_rfl) rfl (fun _ _ _ h => h) rfl hS (fun wz hz => ?y5) ?r5
  case y5 => (go_simp; try with_reducible rfl)
  try simp only [Act.put, List.setIfInBounds_toArray, List.set_cons_zero, List.set_cons_succ]
  refine' takeP 6 10 (some 24) #[true, true, true, true, true, true, true, false, false, false, false, false, false, false, false, false, false] (v := _) rfl rfl rfl (by kernel_rfl) (by kernel_rfl) (by kernel_rfl) rfl (fun _ _ _ h => h) rfl hS (fun wz hz => ?y6) ?r6
  case y6 => (go_simp; try with_reducible rfl)
  try simp only [Act.put, List.setIfInBounds_toArray, List.set_cons_zero, List.set_cons_succ]
  refine' takeP 7 9 (some 25) #[true, true, true, true, true, true, true, true, false, false, false, false, false, false, false, false, false] (v := _) rfl rfl rfl (by kernel_rfl) (by kernel_rfl) (by kernel_rfl) rfl (fun _ _ _ h => h) rfl hS (fun wz hz => ?y7) ?r7
  case y7 => (go_simp; try with_reducible rfl)
  try simp only [Act.put, List.setIfInBounds_toArray, List.set_cons_zero, List.set_cons_succ]
  refine' takeD 8 8 (some 26) #[true, true, true, true, true, true, true, true, true, false, false, false, false, false, false, false, false] (v := _) rfl rfl rfl (by kernel_rfl) (by kernel_rfl) (by kernel_rfl) (by kernel_rfl) (by kernel_rfl) rfl (fun _ _ _ h => h) rfl hS (fun wz hz => ?y8) ?r8
  case y8 => (have hzc := bcell hz; go_simp; try with_reducible rfl)
  try simp only [Act.put, List.setIfInBounds_toArray, List.set_cons_zero, List.set_cons_succ]
  refine' takeP 9 7 (some 27) #[true, true, true, true, true, true, true, true, true, true, false, false, false, false, false, false, false] (v := _) rfl rfl rfl (by kernel_rfl) (by kernel_rfl) (by kernel_rfl) rfl (fun _ _ _ h => h) rfl hS (fun wz hz => ?y9) ?r9
  case y9 => (go_simp; try with_reducible rfl)
  try simp only [Act.put, List.setIfInBounds_toArray, List.set_cons_zero, List.set_cons_succ]
  refine' takeP 10 6 (some 28) #[true, true, true, true, true, true, true, true, true, true, true, false, false, false, false, false, false] (v := _) rfl rfl rfl (by kernel_rfl) (by kernel_rfl) (by kernel_rfl) rfl (fun _ _ _ h => h) rfl hS (fun wz hz => ?y10) ?r10
  case y10 => (go_simp; try with_reducible rfl)
  try simp only [Act.put, List.setIfInBounds_toArray, List.set_cons_zero, List.set_cons_succ]
  refine' takeP 11 5 (some 29) #[true, true, true, true, true, true, true, true, true, true, true, true, false, false, false, false, false] (v := _) rfl rfl rfl (by kernel_rfl) (by kernel_rfl) (by kernel_rfl) rfl (fun _ _ _ h => h) rfl hS (fun wz hz => ?y11) ?r11
  case y11 => (go_simp; try with_reducible rfl)
  try simp only [Act.put, List.setIfInBounds_toArray, List.set_cons_zero, List.set_cons_succ]
  refine' takeP 12 4 (some 30) #[true, true, true, true, true, true, true, true, true, true, true, true, true, false, false, false, false] (v := _) rfl rfl rfl (by kernel_rfl) (by kernel_rfl) (by kernel_rfl) rfl (fun _ _ _ h => h) rfl hS (fun wz hz => ?y12) ?r12
  case y12 => (go_simp; try with_reducible rfl)
  try simp only [Act.put, List.setIfInBounds_toArray, List.set_cons_zero, List.set_cons_succ]
  refine' takeD 13 3 (some 31) #[true, true, true, true, true, true, true, true, true, true, true, true, true, true, false, false, false] (v := _) rfl rfl rfl (by kernel_rfl) (by kernel_rfl) (by kernel_rfl) (by kernel_rfl) (by kernel_rfl) rfl (fun _ _ _ h => h) rfl hS (fun wz hz => ?y13) ?r13
  case y13 => (have hzc := bcell hz; go_simp; try with_reducible rfl)
  try simp only [Act.put, List.setIfInBounds_toArray, List.set_cons_zero, List.set_cons_succ]
  refine callDv 14 2 (some 32) #[true, true, true, true, true, true, true, true, true, true, true, true, true, true, true, false, false] 134 [.int .i64 y, .int .i64 x] (Operand.tmp 22) rfl rfl rfl (by kernel_rfl) rfl rfl rfl rfl Tryz.func134 rfl (by kernel_rfl) (order_any _ y x hy hx) ?_
  rintro v w' hb rfl
  replace hS := hS.trans (hb.mono hS.size)
  refine ⟨hS, ?_⟩
  try simp only [Act.put, List.setIfInBounds_toArray, List.set_cons_zero, List.set_cons_succ]
  refine' takeP 15 1 (some 33) #[true, true, true, true, true, true, true, true, true, true, true, true, true, true, true, true, false] (v := _) rfl rfl rfl (by kernel_rfl) (by kernel_rfl) (by kernel_rfl) rfl (fun _ _ _ h => h) rfl hS (fun wz hz => ?y14) ?r14
  case y14 => (go_simp; try with_reducible rfl)
  try simp only [Act.put, List.setIfInBounds_toArray, List.set_cons_zero, List.set_cons_succ]
  refine' takeP 16 0 (some 34) #[true, true, true, true, true, true, true, true, true, true, true, true, true, true, true, true, true] (v := _) rfl rfl rfl (by kernel_rfl) (by kernel_rfl) (by kernel_rfl) rfl (fun _ _ _ h => h) rfl hS (fun wz hz => ?y15) ?r15
  case y15 => (go_simp; try with_reducible rfl)
  try simp only [Act.put, List.setIfInBounds_toArray, List.set_cons_zero, List.set_cons_succ]
  refine doneD (by kernel_rfl) ?_ _
  have g0 : w'.cell? ⟨b, 0, none⟩ = some (.int .i64 x) := (hS.cell (p := ⟨b, 0, none⟩) hlt).trans h0
  have g1 : w'.cell? ⟨b, 1, none⟩ = some (.int .i64 y) := (hS.cell (p := ⟨b, 1, none⟩) hlt).trans h1
  have gf : ∀ o, w'.frozen? ⟨b, o, none⟩ = false := fun o => (hS.frozen (p := ⟨b, o, none⟩) hlt).trans (hf o)
  have gl : b < w'.heap.size := Nat.lt_of_lt_of_le hlt hS.size
  have HS := Lib.hid hS
  clear hS h0 h1 hf hlt
  by_cases ho : ordL y x < 0
  · have HSt : Hid (sort2 x y = (y, x)) := by show _ = _; simp [sort2, ho]
    generalize ordL y x = z at ho ⊢
    go_wp2_with fail
    refine startD (Below w'.heap.size w') (fun j => j == 15 || j == 16 || j == 17) 18 #[false, false, false, false, false, false, false, false, false, false, false, false, false, false, false, false, false, false] (by kernel_rfl) rfl rfl ((Below.refl _ _).drew) (fun hS6 => ?_)
    refine' takeP 0 17 (some 37) #[true, false, false, false, false, false, false, false, false, false, false, false, false, false, false, false, false, false] (v := _) rfl rfl rfl (by kernel_rfl) (by kernel_rfl) (by kernel_rfl) rfl (fun _ _ _ h => h) rfl hS6 (fun wz hz => ?y16) ?r16
    case y16 => (go_simp; try with_reducible rfl)
    try simp only [Act.put, List.setIfInBounds_toArray, List.set_cons_zero, List.set_cons_succ]
    refine' takeP 1 16 (some 38) #[true, true, false, false, false, false, false, false, false, false, false, false, false, false, false, false, false, false] (v := _) rfl rfl rfl (by kernel_rfl) (by kernel_rfl) (by kernel_rfl) rfl (fun _ _ _ h => h) rfl hS6 (fun wz hz => ?y17) ?r17
    case y17 => (go_simp; try with_reducible rfl)
    try simp only [Act.put, List.setIfInBounds_toArray, List.set_cons_zero, List.set_cons_succ]
    refine' takeP 2 15 (some 39) #[true, true, true, false, false, false, false, false, false, false, false, false, false, false, false, false, false, false] (v := _) rfl rfl rfl (by kernel_rfl) (by kernel_rfl) (by kernel_rfl) rfl (fun _ _ _ h => h) rfl hS6 (fun wz hz => ?y18) ?r18
    case y18 => (go_simp; try with_reducible rfl)
    try simp only [Act.put, List.setIfInBounds_toArray, List.set_cons_zero, List.set_cons_succ]
    refine' takeP 3 14 (some 40) #[true, true, true, true, false, false, false, false, false, false, false, false, false, false, false, false, false, false] (v := _) rfl rfl rfl (by kernel_rfl) (by kernel_rfl) (by kernel_rfl) rfl (fun _ _ _ h => h) rfl hS6 (fun wz hz => ?y19) ?r19
    case y19 => (go_simp; try with_reducible rfl)
    try simp only [Act.put, List.setIfInBounds_toArray, List.set_cons_zero, List.set_cons_succ]
    refine' takeP 4 13 (some 41) #[true, true, true, true, true, false, false, false, false, false, false, false, false, false, false, false, false, false] (v := _) rfl rfl rfl (by kernel_rfl) (by kernel_rfl) (by kernel_rfl) rfl (fun _ _ _ h => h) rfl hS6 (fun wz hz => ?y20) ?r20
    case y20 => (go_simp; try with_reducible rfl)
    try simp only [Act.put, List.setIfInBounds_toArray, List.set_cons_zero, List.set_cons_succ]
    refine' takeP 5 12 (some 42) #[true, true, true, true, true, true, false, false, false, false, false, false, false, false, false, false, false, false] (v := _) rfl rfl rfl (by kernel_rfl) (by kernel_rfl) (by kernel_rfl) rfl (fun _ _ _ h => h) rfl hS6 (fun wz hz => ?y21) ?r21
    case y21 => (go_simp; try with_reducible rfl)
    try simp only [Act.put, List.setIfInBounds_toArray, List.set_cons_zero, List.set_cons_succ]
    refine' takeP 6 11 (some 43) #[true, true, true, true, true, true, true, false, false, false, false, false, false, false, false, false, false, false] (v := _) rfl rfl rfl (by kernel_rfl) (by kernel_rfl) (by kernel_rfl) rfl (fun _ _ _ h => h) rfl hS6 (fun wz hz => ?y22) ?r22
    case y22 => (go_simp; try with_reducible rfl)
    try simp only [Act.put, List.setIfInBounds_toArray, List.set_cons_zero, List.set_cons_succ]
    refine' takeP 7 10 (some 44) #[true, true, true, true, true, true, true, true, false, false, false, false, false, false, false, false, false, false] (v := _) rfl rfl rfl (by kernel_rfl) (by kernel_rfl) (by kernel_rfl) rfl (fun _ _ _ h => h) rfl hS6 (fun wz hz => ?y23) ?r23
    case y23 => (go_simp; try with_reducible rfl)
    try simp only [Act.put, List.setIfInBounds_toArray, List.set_cons_zero, List.set_cons_succ]
    refine' takeP 8 9 (some 45) #[true, true, true, true, true, true, true, true, true, false, false, false, false, false, false, false, false, false] (v := _) rfl rfl rfl (by kernel_rfl) (by kernel_rfl) (by kernel_rfl) rfl (fun _ _ _ h => h) rfl hS6 (fun wz hz => ?y24) ?r24
    case y24 => (go_simp; try with_reducible rfl)
    try simp only [Act.put, List.setIfInBounds_toArray, List.set_cons_zero, List.set_cons_succ]
    refine' takeD 9 8 (some 46) #[true, true, true, true, true, true, true, true, true, true, false, false, false, false, false, false, false, false] (v := _) rfl rfl rfl (by kernel_rfl) (by kernel_rfl) (by kernel_rfl) (by kernel_rfl) (by kernel_rfl) rfl (fun _ _ _ h => h) rfl hS6 (fun wz hz => ?y25) ?r25
    case y25 => (have hzc := bcell hz; go_simp; try with_reducible rfl)
    try simp only [Act.put, List.setIfInBounds_toArray, List.set_cons_zero, List.set_cons_succ]
    refine' takeP 10 7 (some 47) #[true, true, true, true, true, true, true, true, true, true, true, false, false, false, false, false, false, false] (v := _) rfl rfl rfl (by kernel_rfl) (by kernel_rfl) (by kernel_rfl) rfl (fun _ _ _ h => h) rfl hS6 (fun wz hz => ?y26) ?r26
    case y26 => (go_simp; try with_reducible rfl)
    try simp only [Act.put, List.setIfInBounds_toArray, List.set_cons_zero, List.set_cons_succ]
    refine' takeP 11 6 (some 48) #[true, true, true, true, true, true, true, true, true, true, true, true, false, false, false, false, false, false] (v := _) rfl rfl rfl (by kernel_rfl) (by kernel_rfl) (by kernel_rfl) rfl (fun _ _ _ h => h) rfl hS6 (fun wz hz => ?y27) ?r27
    case y27 => (go_simp; try with_reducible rfl)
    try simp only [Act.put, List.setIfInBounds_toArray, List.set_cons_zero, List.set_cons_succ]
    refine' takeP 12 5 (some 49) #[true, true, true, true, true, true, true, true, true, true, true, true, true, false, false, false, false, false] (v := _) rfl rfl rfl (by kernel_rfl) (by kernel_rfl) (by kernel_rfl) rfl (fun _ _ _ h => h) rfl hS6 (fun wz hz => ?y28) ?r28
    case y28 => (go_simp; try with_reducible rfl)
    try simp only [Act.put, List.setIfInBounds_toArray, List.set_cons_zero, List.set_cons_succ]
    refine' takeD 13 4 (some 50) #[true, true, true, true, true, true, true, true, true, true, true, true, true, true, false, false, false, false] (v := _) rfl rfl rfl (by kernel_rfl) (by kernel_rfl) (by kernel_rfl) (by kernel_rfl) (by kernel_rfl) rfl (fun _ _ _ h => h) rfl hS6 (fun wz hz => ?y29) ?r29
    case y29 => (have hzc := bcell hz; go_simp; try with_reducible rfl)
    try simp only [Act.put, List.setIfInBounds_toArray, List.set_cons_zero, List.set_cons_succ]
    refine' takeP 14 3 (some 51) #[true, true, true, true, true, true, true, true, true, true, true, true, true, true, true, false, false, false] (v := _) rfl rfl rfl (by kernel_rfl) (by kernel_rfl) (by kernel_rfl) rfl (fun _ _ _ h => h) rfl hS6 (fun wz hz => ?y30) ?r30
    case y30 => (go_simp; try with_reducible rfl)
    try simp only [Act.put, List.setIfInBounds_toArray, List.set_cons_zero, List.set_cons_succ]
    refine onlyD 15 2 #[true, true, true, true, true, true, true, true, true, true, true, true, true, true, true, true, false, false] rfl rfl (by kernel_rfl) rfl (fun K hK => ?_)
    have hAc := bcell hS6
    go_simp
    refine hK _ _ (fun h => absurd (h 15 rfl) (by decide)) ?_
    clear hK K hAc
    try simp only [Act.put, List.setIfInBounds_toArray, List.set_cons_zero, List.set_cons_succ]
    refine onlyD 16 1 #[true, true, true, true, true, true, true, true, true, true, true, true, true, true, true, true, true, false] rfl rfl (by kernel_rfl) rfl (fun K hK => ?_)
    have hAc := bcell hS6
    go_simp
    refine hK _ _ (fun h => absurd (h 16 rfl) (by decide)) ?_
    clear hK K hAc
    try simp only [Act.put, List.setIfInBounds_toArray, List.set_cons_zero, List.set_cons_succ]
    refine onlyD 17 0 #[true, true, true, true, true, true, true, true, true, true, true, true, true, true, true, true, true, true] rfl rfl (by kernel_rfl) rfl (fun K hK => ?_)
    have hAc := bcell hS6
    go_simp
    refine hK _ _ (fun h => absurd (h 17 rfl) (by decide)) ?_
    clear hK K hAc
    try simp only [Act.put, List.setIfInBounds_toArray, List.set_cons_zero, List.set_cons_succ]
    refine doneD (by kernel_rfl) ?_ _
    have k0 : ((w'.setCell ⟨b, 1, none⟩ (.int .i64 x)).setCell ⟨b, 0, none⟩ (.int .i64 y)).cell? ⟨b, 0, none⟩ = some (.int .i64 y) := by simp [go_sem, g0]
    have k1 : ((w'.setCell ⟨b, 1, none⟩ (.int .i64 x)).setCell ⟨b, 0, none⟩ (.int .i64 y)).cell? ⟨b, 1, none⟩ = some (.int .i64 x) := by simp [go_sem, g1]
    go_wp2_with fail
    rw [rounds_succ]
    go_wp2_with fail
    go_quiet (fail)
    go_wp2_with fail
    rw [rounds_succ]
    go_wp2_with fail
    refine bodyPost_end (v := .tuple #[]) (by simp [results, Tryz.results207, go_sem]) rfl ⟨rfl, ?_, ?_, ?_, ?_⟩
    · exact (Upd.of HS.out).trans (((Upd.set (F := (· = b)) w' b 1 (.int .i64 x) rfl).trans (Upd.set _ b 0 (.int .i64 y) rfl)).drewN _)
    · rw [HSt.out]; exact k0
    · rw [HSt.out]; exact k1
    · intro o
      show ((w'.setCell ⟨b, 1, none⟩ (.int .i64 x)).setCell ⟨b, 0, none⟩ (.int .i64 y)).frozen? ⟨b, o, none⟩ = false
      rw [World.frozen?_setCell, World.frozen?_setCell]; exact gf o
  · have HSt : Hid (sort2 x y = (x, y)) := by show _ = _; simp [sort2, ho]
    generalize ordL y x = z at ho ⊢
    go_wp2_with fail
    rw [rounds_succ]
    go_wp2_with fail
    refine bodyPost_end (v := .tuple #[]) (by simp [results, Tryz.results207, go_sem]) rfl ⟨rfl, Upd.of HS.out, ?_, ?_, gf⟩
    · rw [HSt.out]; exact g0
    · rw [HSt.out]; exact g1

set_option maxRecDepth 100000 in
theorem pdq_few (w : World) (a : Option Addr) (n c : Nat) (lim : Int) (hn : n ≤ 1) : Calls Tryz.prog 170 #[.slice a n c, .int .i64 0, .int .i64 (n : Nat), .int .i64 lim, .func (.func 134) #[] #[]] w (RetS w fun v => v = .tuple #[]) := by
  go_enter Tryz.func170, Tryz.ntmps170
  go_wp2_with fail
  refine wp_loop_once ?_
  go_wp2_with fail
  with_reducible refine (insert_few w a n c hn).mono ?_
  rintro e w' ⟨v, rfl, rfl, rfl⟩
  go_wp2_with fail
  exact bodyPost_ret (v := .tuple #[]) (by simp [results, Tryz.results170, go_sem]) rfl ⟨_, rfl, rfl, rfl⟩

set_option maxRecDepth 100000 in
theorem pdq_two (w : World) (b c : Nat) (lim x y : Int) (hx : I64 x) (hy : I64 y) (h0 : w.cell? ⟨b, 0, none⟩ = some (.int .i64 x)) (h1 : w.cell? ⟨b, 1, none⟩ = some (.int .i64 y)) (hf : ∀ o, w.frozen? ⟨b, o, none⟩ = false) :
    Calls Tryz.prog 170 #[.slice (some ⟨b, 0, none⟩) 2 c, .int .i64 0, .int .i64 2, .int .i64 lim, .func (.func 134) #[] #[]] w
      fun e w' => e = .returned (.tuple #[]) ∧ Upd (· = b) w w' ∧ w'.cell? ⟨b, 0, none⟩ = some (.int .i64 (sort2 x y).1) ∧ w'.cell? ⟨b, 1, none⟩ = some (.int .i64 (sort2 x y).2) ∧ ∀ o, w'.frozen? ⟨b, o, none⟩ = false := by
  have HI := Lib.hid (insert_two w b c x y hx hy h0 h1 hf)
  clear hx hy h0 h1 hf
  go_enter Tryz.func170, Tryz.ntmps170
  go_wp2_with fail
  refine wp_loop_once ?_
  go_wp2_with fail
  with_reducible refine HI.out.mono ?_
  rintro e w' ⟨rfl, hU, k0, k1, kf⟩
  go_wp2_with fail
  exact bodyPost_ret (v := .tuple #[]) (by simp [results, Tryz.results170, go_sem]) rfl ⟨rfl, hU, k0, k1, kf⟩

set_option maxRecDepth 100000 in
/-- SortFunc of at most one. -/
theorem sort_few (w : World) (a : Option Addr) (n c : Nat) (hn : n ≤ 1) : Calls Tryz.prog 133 #[.slice a n c, .func (.func 134) #[] #[]] w (RetS w fun v => v = .tuple #[]) := by
  go_enter Tryz.func133, Tryz.ntmps133
  go_wp2_with fail
  with_reducible refine (Tryz.bits_Len (n : Int) w (by omega) (by omega)).mono ?_
  rintro e w' ⟨rfl, rfl⟩
  go_wp2_with fail
  with_reducible refine (pdq_few _ a n c _ hn).mono ?_
  rintro e w' ⟨v, rfl, rfl, rfl⟩
  go_wp2_with fail
  exact bodyPost_end (v := .tuple #[]) (by simp [results, Tryz.results133, go_sem]) rfl ⟨_, rfl, rfl, rfl⟩

set_option maxRecDepth 100000 in
/-- SortFunc of two. -/
theorem sort_two (w : World) (b c : Nat) (x y : Int) (hx : I64 x) (hy : I64 y) (h0 : w.cell? ⟨b, 0, none⟩ = some (.int .i64 x)) (h1 : w.cell? ⟨b, 1, none⟩ = some (.int .i64 y)) (hf : ∀ o, w.frozen? ⟨b, o, none⟩ = false) :
    Calls Tryz.prog 133 #[.slice (some ⟨b, 0, none⟩) 2 c, .func (.func 134) #[] #[]] w
      fun e w' => e = .returned (.tuple #[]) ∧ Upd (· = b) w w' ∧ w'.cell? ⟨b, 0, none⟩ = some (.int .i64 (sort2 x y).1) ∧ w'.cell? ⟨b, 1, none⟩ = some (.int .i64 (sort2 x y).2) ∧ ∀ o, w'.frozen? ⟨b, o, none⟩ = false := by
  have HI : Hid (∀ lim, _) := Lib.hid (fun lim => pdq_two w b c lim x y hx hy h0 h1 hf)
  clear hx hy h0 h1 hf
  go_enter Tryz.func133, Tryz.ntmps133
  go_wp2_with fail
  with_reducible refine (Tryz.bits_Len 2 w (by omega) (by omega)).mono ?_
  rintro e w' ⟨rfl, rfl⟩
  go_wp2_with fail
  with_reducible refine (HI.out _).mono ?_
  rintro e w' ⟨rfl, hU, k0, k1, kf⟩
  go_wp2_with fail
  exact bodyPost_end (v := .tuple #[]) (by simp [results, Tryz.results133, go_sem]) rfl ⟨rfl, hU, k0, k1, kf⟩
end Go.Proofs.YtodeddappmfphaaGreatDoor
