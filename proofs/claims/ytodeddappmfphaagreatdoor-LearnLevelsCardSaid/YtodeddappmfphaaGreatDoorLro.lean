/- The law LearnRow: its walk. -/
import Derived.Test.YtodeddappmfphaaGreatDoorLaw
namespace Go.Proofs.YtodeddappmfphaaGreatDoor
open Go.RowKit Go.Thd

/-- The trail of LearnRow: d decided ahead, f of the row. -/
def SR (n a d f : Nat) : St where
  n := n + a
  A := fun i => (i : Nat)
  m := d + f
  e := fun i => if i < d then ⟨1, ((n + 1 + i : Nat) : Int), [], ((i + 1 : Nat) : Int)⟩ else if i = d then ⟨1, 1, [], ((d + 1 : Nat) : Int)⟩ else ⟨2, ((i - d + 1 : Nat) : Int), [-((i - d : Nat) : Int), ((i - d + 1 : Nat) : Int)], ((d + 1 : Nat) : Int)⟩
  ent := fun x => if x < f then d + x + 1 else if n ≤ x ∧ x < n + d then x - n + 1 else 0
  lv := ((d + (if f = 0 then 0 else 1) : Nat) : Int)

theorem val_zero {S : St} {k : Int} (h : S.ent (k.natAbs - 1) = 0) : S.val k = 0 := by
  unfold St.val; simp [h]
theorem val_of {S : St} {k : Int} {j : Nat} (hs : S.is k = true) (h : S.ent (k.natAbs - 1) = j + 1) (hl : 0 < (S.e j).lit) : S.val k = if k < 0 then -1 else 1 := by
  unfold St.val
  rw [if_pos hs, if_neg (by omega), h]
  have e1 : j + 1 - 1 = j := by omega
  rw [e1]
  have e2 : ¬ (S.e j).lit < 0 := by omega
  by_cases hk : k < 0
  · rw [if_neg (by simp [e2, hk]), if_pos hk]
  · rw [if_pos (by simp [e2, hk]), if_neg hk]
theorem is_of {S : St} {k : Int} (h0 : k ≠ 0) (h : k.natAbs ≤ S.n) : S.is k = true := by
  unfold St.is
  simp only [Bool.and_eq_true, decide_eq_true_eq]
  omega

theorem SR_lit (n a d f : Nat) {i : Nat} (h1 : d ≤ i) : ((SR n a d f).e i).lit = ((i - d + 1 : Nat) : Int) := by
  show (if i < d then (⟨1, ((n + 1 + i : Nat) : Int), [], ((i + 1 : Nat) : Int)⟩ : En) else if i = d then ⟨1, 1, [], ((d + 1 : Nat) : Int)⟩ else ⟨2, ((i - d + 1 : Nat) : Int), [-((i - d : Nat) : Int), ((i - d + 1 : Nat) : Int)], ((d + 1 : Nat) : Int)⟩).lit = _
  rw [if_neg (by omega)]
  by_cases h : i = d
  · subst h; simp
  · rw [if_neg h]

theorem SR_start {B : Nat} {w0 w : World} {T : TA} (n a : Nat) (h : TrB B w0 w T (S0 (n + a) (fun j => j + 0))) : TrB B w0 w T (SR n a 0 0) :=
  h.congr rfl rfl rfl (fun _ _ => rfl) (fun i hi => absurd hi (by show ¬ i < 0; omega)) (fun i _ => by
    show (if i < 0 then 0 + i + 1 else if n ≤ i ∧ i < n + 0 then i - n + 1 else 0) = 0
    rw [if_neg (by omega), if_neg (by omega)])
theorem SR_ahead {B : Nat} {w0 w : World} {T : TA} (n a d : Nat) (h : TrB B w0 w T ((SR n a d 0).up.put 1 ((n + 1 + d : Nat) : Int) [])) : TrB B w0 w T (SR n a (d + 1) 0) := by
  refine h.congr rfl rfl ?_ (fun _ _ => rfl) (fun i hi => ?_) (fun i hi => ?_)
  · show ((d + 1 + (if 0 = 0 then 0 else 1) : Nat) : Int) = ((d + (if 0 = 0 then 0 else 1) : Nat) : Int) + 1
    simp
  · have hi' : i < d + 0 + 1 := hi
    show (if i < d + 1 then (⟨1, ((n + 1 + i : Nat) : Int), [], ((i + 1 : Nat) : Int)⟩ : En) else _) = if i = d + 0 then ⟨1, ((n + 1 + d : Nat) : Int), [], ((d + (if 0 = 0 then 0 else 1) : Nat) : Int) + 1⟩ else if i < d then (⟨1, ((n + 1 + i : Nat) : Int), [], ((i + 1 : Nat) : Int)⟩ : En) else _
    rw [if_pos (by omega)]
    by_cases h : i = d
    · subst h; simp
    · rw [if_neg (by omega), if_pos (by omega)]
  · show (if i < 0 then d + 1 + i + 1 else if n ≤ i ∧ i < n + (d + 1) then i - n + 1 else 0) = if i = (((n + 1 + d : Nat) : Int)).natAbs - 1 then d + 0 + 1 else if i < 0 then d + i + 1 else if n ≤ i ∧ i < n + d then i - n + 1 else 0
    have e1 : (((n + 1 + d : Nat) : Int)).natAbs - 1 = n + d := by omega
    rw [e1]
    simp only [Nat.not_lt_zero, if_false]
    by_cases h : i = n + d
    · rw [if_pos h, if_pos (show n ≤ i ∧ i < n + (d + 1) from by omega)]; omega
    · rw [if_neg h]
      by_cases h2 : n ≤ i ∧ i < n + d
      · rw [if_pos h2, if_pos (show n ≤ i ∧ i < n + (d + 1) from by omega)]
      · rw [if_neg h2, if_neg (show ¬ (n ≤ i ∧ i < n + (d + 1)) from by omega)]
theorem SR_first {B : Nat} {w0 w : World} {T : TA} (n a d : Nat) (h : TrB B w0 w T ((SR n a d 0).up.put 1 1 [])) : TrB B w0 w T (SR n a d 1) := by
  refine h.congr rfl rfl ?_ (fun _ _ => rfl) (fun i hi => ?_) (fun i hi => ?_)
  · show ((d + (if 1 = 0 then 0 else 1) : Nat) : Int) = ((d + (if 0 = 0 then 0 else 1) : Nat) : Int) + 1
    simp
  · have hi' : i < d + 0 + 1 := hi
    show (if i < d then (⟨1, ((n + 1 + i : Nat) : Int), [], ((i + 1 : Nat) : Int)⟩ : En) else if i = d then ⟨1, 1, [], ((d + 1 : Nat) : Int)⟩ else _) = if i = d + 0 then ⟨1, 1, [], ((d + (if 0 = 0 then 0 else 1) : Nat) : Int) + 1⟩ else if i < d then (⟨1, ((n + 1 + i : Nat) : Int), [], ((i + 1 : Nat) : Int)⟩ : En) else _
    by_cases h : i = d
    · subst h; simp
    · rw [if_neg (show ¬ (i = d + 0) from by omega), if_pos (show i < d from by omega)]
  · show (if i < 1 then d + i + 1 else if n ≤ i ∧ i < n + d then i - n + 1 else 0) = if i = ((1 : Int)).natAbs - 1 then d + 0 + 1 else if i < 0 then d + i + 1 else if n ≤ i ∧ i < n + d then i - n + 1 else 0
    have e1 : ((1 : Int)).natAbs - 1 = 0 := rfl
    rw [e1]
    simp only [Nat.not_lt_zero, if_false]
    by_cases h : i = 0
    · subst h; simp
    · rw [if_neg (show ¬ i < 1 from by omega), if_neg h]
theorem SR_next {B : Nat} {w0 w : World} {T : TA} (n a d f : Nat) (h0 : 1 ≤ f) (h : TrB B w0 w T ((SR n a d f).put 2 ((f + 1 : Nat) : Int) [-((f : Nat) : Int), ((f + 1 : Nat) : Int)])) : TrB B w0 w T (SR n a d (f + 1)) := by
  refine h.congr rfl rfl ?_ (fun _ _ => rfl) (fun i hi => ?_) (fun i hi => ?_)
  · show ((d + (if f + 1 = 0 then 0 else 1) : Nat) : Int) = ((d + (if f = 0 then 0 else 1) : Nat) : Int)
    rw [if_neg (by omega), if_neg (by omega)]
  · have hi' : i < d + f + 1 := hi
    show ((SR n a d f).e i) = if i = d + f then ⟨2, ((f + 1 : Nat) : Int), [-((f : Nat) : Int), ((f + 1 : Nat) : Int)], ((d + (if f = 0 then 0 else 1) : Nat) : Int)⟩ else (SR n a d f).e i
    by_cases h : i = d + f
    · subst h
      rw [if_pos rfl]
      show (if d + f < d then (⟨1, ((n + 1 + (d + f) : Nat) : Int), [], ((d + f + 1 : Nat) : Int)⟩ : En) else if d + f = d then ⟨1, 1, [], ((d + 1 : Nat) : Int)⟩ else ⟨2, ((d + f - d + 1 : Nat) : Int), [-((d + f - d : Nat) : Int), ((d + f - d + 1 : Nat) : Int)], ((d + 1 : Nat) : Int)⟩) = _
      rw [if_neg (by omega), if_neg (by omega), if_neg (by omega), show d + f - d = f from by omega]
    · rw [if_neg h]
  · show (if i < f + 1 then d + i + 1 else if n ≤ i ∧ i < n + d then i - n + 1 else 0) = if i = (((f + 1 : Nat) : Int)).natAbs - 1 then d + f + 1 else if i < f then d + i + 1 else if n ≤ i ∧ i < n + d then i - n + 1 else 0
    have e1 : (((f + 1 : Nat) : Int)).natAbs - 1 = f := by omega
    rw [e1]
    by_cases h : i = f
    · subst h; simp
    · rw [if_neg h]
      by_cases h2 : i < f
      · rw [if_pos h2, if_pos (by omega)]
      · rw [if_neg h2, if_neg (by omega)]
theorem SR_ent (n a d f : Nat) {x : Nat} (h : x < f) : (SR n a d f).ent x = d + x + 1 := by
  show (if x < f then d + x + 1 else _) = _
  rw [if_pos h]
theorem SR_ent0 (n a d f : Nat) {x : Nat} (h : ¬ x < f) (h2 : ¬ (n ≤ x ∧ x < n + d)) : (SR n a d f).ent x = 0 := by
  show (if x < f then d + x + 1 else if n ≤ x ∧ x < n + d then x - n + 1 else 0) = _
  rw [if_neg h, if_neg h2]
theorem SR_val (n a d f i : Nat) (h1 : 1 ≤ i) (h2 : i ≤ f) (h3 : f ≤ n + a) : (SR n a d f).val (-(i : Int)) = -1 := by
  have hx : (-(i : Int)).natAbs - 1 = i - 1 := by omega
  rw [val_of (j := d + (i - 1)) (is_of (by omega) (by show _ ≤ n + a; omega)) (by rw [hx, SR_ent n a d f (by omega)]) (by rw [SR_lit n a d f (by omega)]; omega), if_pos (by omega)]

theorem SR_row (n a : Nat) (hn : 1 ≤ n) (h8 : n ≤ 8) : Row (SR n a a n) n a ((a + 1 : Nat) : Int) where
  val := fun i h1 h2 => SR_val n a a n i h1 h2 (by omega)
  lev := fun i h1 h2 => by
    unfold St.level
    rw [if_neg (by rw [SR_val n a a n i h1 h2 (by omega)]; decide)]
    have hx : (-(i : Int)).natAbs - 1 = i - 1 := by omega
    rw [hx, SR_ent n a a n (by omega), show a + (i - 1) + 1 - 1 = a + (i - 1) from by omega]
    show (if a + (i - 1) < a then (⟨1, ((n + 1 + (a + (i - 1)) : Nat) : Int), [], ((a + (i - 1) + 1 : Nat) : Int)⟩ : En) else if a + (i - 1) = a then ⟨1, 1, [], ((a + 1 : Nat) : Int)⟩ else ⟨2, _, _, ((a + 1 : Nat) : Int)⟩).lev = _
    rw [if_neg (by omega)]
    split <;> rfl
  ent := fun i h1 h2 => by rw [SR_ent n a a n (by omega)]; omega
  inn := by show n ≤ n + a; omega
  inm := by show a + n ≤ a + n; omega
  kind1 := by
    show (if a < a then (⟨1, ((n + 1 + a : Nat) : Int), [], ((a + 1 : Nat) : Int)⟩ : En) else if a = a then ⟨1, 1, [], ((a + 1 : Nat) : Int)⟩ else _).kind ≠ 2
    rw [if_neg (by omega), if_pos rfl]
    show (1 : Int) ≠ 2
    decide
  kind := fun i h1 h2 => by
    show (if a + i - 1 < a then (⟨1, ((n + 1 + (a + i - 1) : Nat) : Int), [], ((a + i - 1 + 1 : Nat) : Int)⟩ : En) else if a + i - 1 = a then ⟨1, 1, [], ((a + 1 : Nat) : Int)⟩ else ⟨2, ((a + i - 1 - a + 1 : Nat) : Int), [-((a + i - 1 - a : Nat) : Int), ((a + i - 1 - a + 1 : Nat) : Int)], ((a + 1 : Nat) : Int)⟩).kind = 2 ∧ _
    rw [SR_lit n a a n (by omega), if_neg (by omega), if_neg (by omega)]
    exact ⟨rfl, by omega⟩
  why := fun i h1 h2 => by
    have e : ((SR n a a n).e (a + i - 1)).why = [-((i : Int) - 1), (i : Int)] := by
      show (if a + i - 1 < a then (⟨1, ((n + 1 + (a + i - 1) : Nat) : Int), [], ((a + i - 1 + 1 : Nat) : Int)⟩ : En) else if a + i - 1 = a then ⟨1, 1, [], ((a + 1 : Nat) : Int)⟩ else ⟨2, ((a + i - 1 - a + 1 : Nat) : Int), [-((a + i - 1 - a : Nat) : Int), ((a + i - 1 - a + 1 : Nat) : Int)], ((a + 1 : Nat) : Int)⟩).why = _
      rw [if_neg (by omega), if_neg (by omega)]
      show [-((a + i - 1 - a : Nat) : Int), ((a + i - 1 - a + 1 : Nat) : Int)] = _
      rw [show ((a + i - 1 - a : Nat) : Int) = (i : Int) - 1 from by omega, show ((a + i - 1 - a + 1 : Nat) : Int) = (i : Int) from by omega]
    rw [e]
    refine ⟨by simp, ?_⟩
    have h3 : (-((i : Int) - 1) != (i : Int)) = true := by rw [bne_iff_ne]; omega
    simp only [List.filter_cons, h3, List.filter_nil, bne_self_eq_false]
    simp
  short := fun i hi => by
    show (if i < a then (⟨1, ((n + 1 + i : Nat) : Int), [], ((i + 1 : Nat) : Int)⟩ : En) else if i = a then ⟨1, 1, [], ((a + 1 : Nat) : Int)⟩ else ⟨2, ((i - a + 1 : Nat) : Int), [-((i - a : Nat) : Int), ((i - a + 1 : Nat) : Int)], ((a + 1 : Nat) : Int)⟩).why.length ≤ 1000
    split
    · simp
    · split <;> simp
  pos := by omega
  small := by omega
end Go.Proofs.YtodeddappmfphaaGreatDoor
