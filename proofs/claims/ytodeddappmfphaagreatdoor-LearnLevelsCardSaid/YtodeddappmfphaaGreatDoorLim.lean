/- Plain mathematics: numbers as limbs of 64 bits. Nothing of the program stands here. -/
namespace Go.Thd

/-- 2 to the 64th. -/
def B64 : Nat := 18446744073709551616
theorem B64_pos : 0 < B64 := by unfold B64; omega
theorem B64_gt : 1 < B64 := by unfold B64; omega

/-- The number that the first limbs are. -/
def val (f : Nat → Nat) : Nat → Nat
  | 0 => 0
  | n + 1 => val f n + f n * B64 ^ n
/-- A number's limb. -/
def dig (x i : Nat) : Nat := x / B64 ^ i % B64
/-- How many limbs a number has. -/
def nl (x : Nat) : Nat := if h : x = 0 then 0 else nl (x / B64) + 1
termination_by x
decreasing_by exact Nat.div_lt_self (by omega) B64_gt

theorem nl_zero : nl 0 = 0 := by rw [nl]; simp
theorem nl_pos {x : Nat} (h : x ≠ 0) : nl x = nl (x / B64) + 1 := by rw [nl]; simp [h]
theorem nl_eq_zero {x : Nat} : nl x = 0 ↔ x = 0 := by
  constructor
  · intro h
    refine Decidable.byContradiction fun h0 => ?_
    rw [nl_pos h0] at h; omega
  · rintro rfl; exact nl_zero
theorem nl_small {x : Nat} (h0 : x ≠ 0) (h : x < B64) : nl x = 1 := by
  rw [nl_pos h0, Nat.div_eq_of_lt h, nl_zero]

theorem dig_lt (x i : Nat) : dig x i < B64 := Nat.mod_lt _ B64_pos
theorem dig_zero {x : Nat} (h : x < B64) : dig x 0 = x := by simp [dig, Nat.mod_eq_of_lt h]

theorem pow_pos' (n : Nat) : 0 < B64 ^ n := Nat.pow_pos B64_pos

theorem val_lt {f : Nat → Nat} {n : Nat} (h : ∀ i, i < n → f i < B64) : val f n < B64 ^ n := by
  induction n with
  | zero => simp [val]
  | succ n ih =>
    have h1 := ih fun i hi => h i (by omega)
    have h2 : f n + 1 ≤ B64 := h n (by omega)
    have h3 := Nat.mul_le_mul_right (B64 ^ n) h2
    rw [Nat.add_mul, Nat.one_mul] at h3
    rw [val, Nat.pow_succ, Nat.mul_comm _ B64]
    omega

theorem val_dig (x n : Nat) : val (dig x) n = x % B64 ^ n := by
  induction n with
  | zero => simp [val, Nat.mod_one]
  | succ n ih =>
    rw [val, ih, dig, Nat.pow_succ, Nat.mod_mul, Nat.mul_comm (B64 ^ n)]

theorem lt_pow_nl (x : Nat) : x < B64 ^ nl x := by
  induction x using Nat.strongRecOn with
  | _ x ih =>
    by_cases h : x = 0
    · subst h; rw [nl_zero]; simp
    · rw [nl_pos h, Nat.pow_succ]
      exact (Nat.div_lt_iff_lt_mul B64_pos).1 (ih _ (Nat.div_lt_self (by omega) B64_gt))

theorem nl_le {x n : Nat} (h : x < B64 ^ n) : nl x ≤ n := by
  induction n generalizing x with
  | zero =>
    have : x = 0 := by simpa using h
    subst this; rw [nl_zero]; exact Nat.le_refl _
  | succ n ih =>
    by_cases h0 : x = 0
    · subst h0; rw [nl_zero]; omega
    · rw [nl_pos h0]
      have := ih (x := x / B64) ((Nat.div_lt_iff_lt_mul B64_pos).2 (by rw [Nat.pow_succ] at h; exact h))
      omega

theorem nl_mono {x y : Nat} (h : x ≤ y) : nl x ≤ nl y := nl_le (Nat.lt_of_le_of_lt h (lt_pow_nl y))

theorem val_dig_nl (x : Nat) : val (dig x) (nl x) = x := by rw [val_dig, Nat.mod_eq_of_lt (lt_pow_nl x)]

theorem val_congr {f g : Nat → Nat} {n : Nat} (h : ∀ i, i < n → f i = g i) : val f n = val g n := by
  induction n with
  | zero => rfl
  | succ n ih => rw [val, val, ih fun i hi => h i (by omega), h n (by omega)]

theorem val_mod {f : Nat → Nat} {n m : Nat} (h : ∀ i, i < n + m → f i < B64) : val f (n + m) % B64 ^ n = val f n := by
  induction m with
  | zero => exact Nat.mod_eq_of_lt (val_lt fun i hi => h i hi)
  | succ m ih =>
    rw [← Nat.add_assoc, val, Nat.pow_add, show f (n + m) * (B64 ^ n * B64 ^ m) = B64 ^ n * (f (n + m) * B64 ^ m) from by rw [Nat.mul_left_comm], Nat.add_mul_mod_self_left]
    exact ih fun i hi => h i (by omega)

theorem dig_val {f : Nat → Nat} {n i : Nat} (h : ∀ i, i < n → f i < B64) (hi : i < n) : dig (val f n) i = f i := by
  have h1 : val f n % B64 ^ (i + 1) = val f (i + 1) := by
    have := val_mod (f := f) (n := i + 1) (m := n - (i + 1)) (fun j hj => h j (by omega))
    rwa [show i + 1 + (n - (i + 1)) = n from by omega] at this
  have h2 : dig (val f n) i = (val f n % B64 ^ (i + 1)) / B64 ^ i := by
    rw [dig, Nat.pow_succ, Nat.mod_mul_right_div_self]
  rw [h2, h1, val, Nat.add_mul_div_right _ _ (pow_pos' i), Nat.div_eq_of_lt (val_lt fun j hj => h j (by omega)), Nat.zero_add]

/-- How many limbs are left without noughts at the end. -/
def tl (f : Nat → Nat) : Nat → Nat
  | 0 => 0
  | n + 1 => if f n = 0 then tl f n else n + 1

theorem tl_le (f : Nat → Nat) (n : Nat) : tl f n ≤ n := by
  induction n with
  | zero => exact Nat.le_refl _
  | succ n ih => rw [tl]; split <;> omega

theorem nl_ge {x n : Nat} (h : B64 ^ n ≤ x) : n + 1 ≤ nl x := by
  refine Decidable.byContradiction fun h0 => ?_
  have h1 : nl x ≤ n := by omega
  have := Nat.lt_of_lt_of_le (lt_pow_nl x) (Nat.pow_le_pow_right B64_pos h1)
  omega

theorem tl_eq {f : Nat → Nat} {n : Nat} (h : ∀ i, i < n → f i < B64) : tl f n = nl (val f n) := by
  induction n with
  | zero => rw [tl, val, nl_zero]
  | succ n ih =>
    rw [tl]
    have ih' := ih fun i hi => h i (by omega)
    split
    · rename_i h0
      rw [ih', val, h0]; simp
    · rename_i h0
      have h1 : nl (val f (n + 1)) ≤ n + 1 := nl_le (val_lt h)
      have h2 : B64 ^ n ≤ val f (n + 1) := by
        rw [val]
        have := Nat.mul_le_mul_right (B64 ^ n) (show 1 ≤ f n by omega)
        omega
      have := nl_ge h2
      omega

theorem dig_nl {x : Nat} (h : x ≠ 0) : dig x (nl x - 1) ≠ 0 := by
  intro h0
  obtain ⟨k, hk⟩ : ∃ k, nl x = k + 1 := ⟨nl x - 1, by have := mt nl_eq_zero.1 h; omega⟩
  rw [hk, Nat.add_sub_cancel] at h0
  have h1 := val_dig_nl x
  rw [hk, val, h0] at h1
  simp at h1
  have h2 : x < B64 ^ k := by rw [← h1]; exact val_lt fun i _ => dig_lt _ _
  have := nl_le h2
  omega

/-- The order of two numbers. -/
def cmpI (x y : Int) : Int := if x < y then -1 else if x = y then 0 else 1
/-- The order of limbs, from the highest one down. -/
def ordF (f g : Nat → Nat) : Nat → Int
  | 0 => 0
  | n + 1 => if f n = g n then ordF f g n else cmpI (f n) (g n)

theorem ordF_eq {f g : Nat → Nat} {n : Nat} (hf : ∀ i, i < n → f i < B64) (hg : ∀ i, i < n → g i < B64) :
    ordF f g n = cmpI (val f n) (val g n) := by
  induction n with
  | zero => simp [ordF, val, cmpI]
  | succ n ih =>
    have ih' := ih (fun i hi => hf i (by omega)) (fun i hi => hg i (by omega))
    have h1 := val_lt (f := f) (n := n) fun i hi => hf i (by omega)
    have h2 := val_lt (f := g) (n := n) fun i hi => hg i (by omega)
    rw [ordF]
    split
    · rename_i h0
      rw [ih', val, val, h0]
      simp only [cmpI]
      congr 1
      · simp
      · congr 1; simp
    · rename_i h0
      rw [val, val]
      simp only [cmpI]
      rcases Nat.lt_or_gt_of_ne h0 with h | h
      · have h3 := Nat.mul_le_mul_right (B64 ^ n) (show f n + 1 ≤ g n from h)
        rw [Nat.add_mul, Nat.one_mul] at h3
        rw [if_pos (by omega), if_pos (by omega)]
      · have h3 := Nat.mul_le_mul_right (B64 ^ n) (show g n + 1 ≤ f n from h)
        rw [Nat.add_mul, Nat.one_mul] at h3
        rw [if_neg (by omega), if_neg (by omega), if_neg (by omega), if_neg (by omega)]
theorem cmpI_of_nl {x y : Nat} (h : nl x ≠ nl y) : cmpI (nl x) (nl y) = cmpI x y := by
  simp only [cmpI]
  rcases Nat.lt_or_gt_of_ne h with h1 | h1
  · have : x < y := Nat.lt_of_not_le fun h2 => by have := nl_mono h2; omega
    rw [if_pos (by omega), if_pos (by omega)]
  · have : y < x := Nat.lt_of_not_le fun h2 => by have := nl_mono h2; omega
    rw [if_neg (by omega), if_neg (by omega), if_neg (by omega), if_neg (by omega)]

/-- One limb turned. -/
def upd (f : Nat → Nat) (j s : Nat) : Nat → Nat := fun i => if i = j then s else f i
theorem upd_same (f : Nat → Nat) (j s : Nat) : upd f j s j = s := by simp [upd]
theorem upd_other {f : Nat → Nat} {j s i : Nat} (h : i ≠ j) : upd f j s i = f i := by simp [upd, h]
theorem val_upd (f : Nat → Nat) (k s : Nat) : val (upd f k s) (k + 1) = val f k + s * B64 ^ k := by
  rw [val, upd_same, val_congr (g := f) fun i hi => upd_other (by omega)]
theorem upd_lt {f : Nat → Nat} {k s : Nat} (h : ∀ i, i < k → f i < B64) (hs : s < B64) : ∀ i, i < k + 1 → upd f k s i < B64 := by
  intro i hi
  by_cases e : i = k
  · subst e; rw [upd_same]; exact hs
  · rw [upd_other e]; exact h i (by omega)

/-- A step of a sum. -/
theorem plus_step {f g h : Nat → Nat} {k c : Nat} (hv : val h k + c * B64 ^ k = val f k + val g k) :
    val (upd h k ((f k + g k + c) % B64)) (k + 1) + (f k + g k + c) / B64 * B64 ^ (k + 1) = val f (k + 1) + val g (k + 1) := by
  rw [val_upd, val, val, Nat.pow_succ, Nat.mul_comm (B64 ^ k) B64, ← Nat.mul_assoc]
  have h1 := Nat.div_add_mod (f k + g k + c) B64
  rw [Nat.mul_comm] at h1
  have h2 : (f k + g k + c) % B64 * B64 ^ k + (f k + g k + c) / B64 * B64 * B64 ^ k = (f k + g k + c) * B64 ^ k := by
    rw [← Nat.add_mul]; congr 1; omega
  rw [Nat.add_assoc, h2, Nat.add_mul, Nat.add_mul]
  omega
theorem carry_le {a b c : Nat} (ha : a < B64) (hb : b < B64) (hc : c ≤ 1) : (a + b + c) / B64 ≤ 1 := by
  have : a + b + c < 2 * B64 := by omega
  have := (Nat.div_lt_iff_lt_mul B64_pos).2 this
  omega
theorem dig_high {x i : Nat} (h : nl x ≤ i) : dig x i = 0 := by
  have h1 := lt_pow_nl x
  have h2 := Nat.pow_le_pow_right B64_pos h
  rw [dig, Nat.div_eq_of_lt (by omega), Nat.zero_mod]
theorem val_dig_ge {x n : Nat} (h : nl x ≤ n) : val (dig x) n = x := by
  rw [val_dig, Nat.mod_eq_of_lt]
  exact Nat.lt_of_lt_of_le (lt_pow_nl x) (Nat.pow_le_pow_right B64_pos h)

/-- A segment of limbs. -/
def seg (f : Nat → Nat) (off : Nat) : Nat → Nat := fun j => f (off + j)
theorem val_upd_off (f : Nat → Nat) (off k s : Nat) : val (seg (upd f (off + k) s) off) (k + 1) = val (seg f off) k + s * B64 ^ k := by
  have h1 : val (seg (upd f (off + k) s) off) k = val (seg f off) k := val_congr fun i hi => by simp only [seg]; exact upd_other (by omega)
  have h2 : seg (upd f (off + k) s) off k = s := by simp only [seg]; exact upd_same _ _ _
  rw [val, h1, h2]
theorem val_seg (f : Nat → Nat) (off n : Nat) : val f (off + n) = val f off + B64 ^ off * val (seg f off) n := by
  induction n with
  | zero => simp [val]
  | succ n ih =>
    rw [← Nat.add_assoc, val, val, ih, Nat.pow_add, Nat.mul_add, seg]
    have : f (off + n) * (B64 ^ off * B64 ^ n) = B64 ^ off * (f (off + n) * B64 ^ n) := by rw [Nat.mul_left_comm]
    omega

/-- The arithmetic of a round of row. -/
theorem row_arith (xi k cr o : Nat) (h1 : xi < B64) (h2 : k < B64) (h3 : cr < B64) (h4 : o < B64) :
    ∃ hi lo l1 c1 nw c2, xi * k / B64 = hi ∧ xi * k % B64 = lo ∧ (lo + cr + 0) % B64 = l1 ∧ (lo + cr + 0) / B64 = c1 ∧ (o + l1 + 0) % B64 = nw ∧ (o + l1 + 0) / B64 = c2 ∧
      hi + c1 < B64 ∧ hi + c1 + c2 < B64 ∧ nw < B64 ∧ nw + (hi + c1 + c2) * B64 = o + k * xi + cr := by
  refine ⟨_, _, _, _, _, _, rfl, rfl, rfl, rfl, rfl, rfl, ?_⟩
  have e0 := Nat.div_add_mod (xi * k) B64
  have e1 := Nat.div_add_mod (xi * k % B64 + cr + 0) B64
  have e2 := Nat.div_add_mod (o + (xi * k % B64 + cr + 0) % B64 + 0) B64
  have m2 := Nat.mod_lt (o + (xi * k % B64 + cr + 0) % B64 + 0) B64_pos
  rw [Nat.mul_comm k xi]
  generalize xi * k / B64 = hi at *
  generalize (xi * k % B64 + cr + 0) / B64 = c1 at *
  generalize (o + (xi * k % B64 + cr + 0) % B64 + 0) / B64 = c2 at *
  generalize (o + (xi * k % B64 + cr + 0) % B64 + 0) % B64 = nw at *
  have hp : xi * k ≤ (B64 - 1) * (B64 - 1) := Nat.mul_le_mul (by omega) (by omega)
  have hb : (B64 - 1) * (B64 - 1) + (B64 - 1) + (B64 - 1) + 1 = B64 * B64 := by unfold B64; rfl
  have ht : nw + (hi + c1 + c2) * B64 = o + xi * k + cr := by
    rw [Nat.add_mul, Nat.add_mul, Nat.mul_comm hi, Nat.mul_comm c1, Nat.mul_comm c2]; omega
  have hc : hi + c1 + c2 < B64 := by
    have : (hi + c1 + c2) * B64 < B64 * B64 := by omega
    exact Nat.lt_of_mul_lt_mul_right this
  exact ⟨by omega, hc, m2, ht⟩

theorem row_step {f d h : Nat → Nat} {off k i cr nw cr' : Nat} (hv : val (seg h off) i + cr * B64 ^ i = val (seg f off) i + k * val d i)
    (ht : nw + cr' * B64 = f (off + i) + k * d i + cr) :
    val (seg (upd h (off + i) nw) off) (i + 1) + cr' * B64 ^ (i + 1) = val (seg f off) (i + 1) + k * val d (i + 1) := by
  rw [val_upd_off, val, val, Nat.pow_succ, Nat.mul_comm (B64 ^ i) B64, ← Nat.mul_assoc]
  have h2 : nw * B64 ^ i + cr' * B64 * B64 ^ i = f (off + i) * B64 ^ i + k * d i * B64 ^ i + cr * B64 ^ i := by
    rw [← Nat.add_mul, ht, Nat.add_mul, Nat.add_mul]
  rw [Nat.mul_add, ← Nat.mul_assoc k]
  have h3 : seg f off i = f (off + i) := rfl
  rw [h3]
  omega

/-- A step of a difference. -/
theorem minus_step {f g h : Nat → Nat} {k c : Nat} (hv : val h k + val g k = val f k + c * B64 ^ k) (hf : f k < B64) (hg : g k < B64) (hc : c ≤ 1) :
    val (upd h k ((f k + B64 - g k - c) % B64)) (k + 1) + val g (k + 1) = val f (k + 1) + (if f k < g k + c then 1 else 0) * B64 ^ (k + 1) := by
  rw [val_upd, val, val, Nat.pow_succ, Nat.mul_comm (B64 ^ k) B64, ← Nat.mul_assoc]
  have h1 : (f k + B64 - g k - c) % B64 + g k + c = f k + (if f k < g k + c then 1 else 0) * B64 := by
    split
    · rw [Nat.mod_eq_of_lt (by omega)]; omega
    · rw [show f k + B64 - g k - c = (f k - g k - c) + B64 from by omega, Nat.add_mod_right, Nat.mod_eq_of_lt (by omega)]; omega
  have h2 := congrArg (· * B64 ^ k) h1
  simp only [Nat.add_mul] at h2
  omega

theorem val_seg_change {f g : Nat → Nat} {off m d N : Nat} (hs : ∀ j, j < off ∨ off + m ≤ j → g j = f j) (hv : val (seg g off) m = val (seg f off) m + d) (hN : off + m ≤ N) :
    val g N = val f N + B64 ^ off * d := by
  obtain ⟨r, rfl⟩ : ∃ r, N = off + m + r := ⟨N - (off + m), by omega⟩
  induction r with
  | zero =>
    rw [Nat.add_zero, val_seg, val_seg, hv, Nat.mul_add, val_congr (f := g) (g := f) fun i hi => hs i (by omega)]
    omega
  | succ r ih =>
    rw [← Nat.add_assoc, val, val, ih (by omega), hs _ (by omega)]
    omega

theorem times_over {f : Nat → Nat} {x k V i n N : Nat} (hv : val f N = x * V) (hV : V < B64 ^ i) (hk : k < B64) (hx : x < B64 ^ n) (hfit : i + (n + 1) ≤ N) :
    val (seg f i) (n + 1) + k * x < B64 ^ (n + 1) := by
  have h1 : val f (i + (n + 1)) ≤ val f N := by
    obtain ⟨r, rfl⟩ : ∃ r, N = i + (n + 1) + r := ⟨N - (i + (n + 1)), by omega⟩
    rw [val_seg f (i + (n + 1)) r]
    exact Nat.le_add_right _ _
  rw [val_seg f i (n + 1), hv] at h1
  have h2 : x * V ≤ B64 ^ i * x := by rw [Nat.mul_comm]; exact Nat.mul_le_mul_right x (Nat.le_of_lt hV)
  have h3 : val (seg f i) (n + 1) ≤ x := Nat.le_of_mul_le_mul_left (by omega) (pow_pos' i)
  have h4 : (k + 1) * x ≤ B64 * x := Nat.mul_le_mul_right x hk
  have h5 : B64 * x < B64 * B64 ^ n := Nat.mul_lt_mul_of_pos_left hx B64_pos
  rw [Nat.pow_succ, Nat.mul_comm _ B64]
  rw [Nat.add_mul, Nat.one_mul] at h4
  omega

end Go.Thd
