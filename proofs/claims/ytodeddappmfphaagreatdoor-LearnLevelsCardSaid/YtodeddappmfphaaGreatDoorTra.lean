/- The trail of atoms that speak of a Bool each, with nothing given: what its cells are; Size, is, given, by, sense, Lit. -/
import Derived.Test.YtodeddappmfphaaGreatDoorProg
import Derived.Test.YtodeddappmfphaaGreatDoorLst
namespace Go.Proofs.YtodeddappmfphaaGreatDoor
open Go.RowKit Go.Thd

/-- An entry: kind, literal, why, level. -/
structure En where
  kind : Int
  lit : Int
  why : List Int
  lev : Int

/-- Where a trail's parts lie. -/
structure TA where
  bt : Nat
  ba : Nat
  ca : Nat
  mv : Nat
  ms : Value
  mat : Value
  mof : Value
  ev : Value
  vb : Nat → Nat
  vc : Nat → Nat
  wa : Nat → Option Addr
  wc : Nat → Nat

/-- What a trail holds: n atoms, their constants; m entries; each atom's entry's number, from 1 on; the level. -/
structure St where
  n : Nat
  A : Nat → Int
  m : Nat
  e : Nat → En
  ent : Nat → Nat
  lv : Int

/-- n elements of k cells each, in a row. -/
def rowC (n k : Nat) (g : Nat → Nat → Value) : List Value := (List.range (n * k)).map fun q => g (q / k) (q % k)

def atC (T : TA) (S : St) (i j : Nat) : Value :=
  match j with
  | 0 => .int .i64 6
  | 1 => .slice none 0 0
  | 2 => .bool false
  | 3 => .slice none 0 0
  | 4 => .slice none 0 0
  | 5 => .int .i64 (S.A i)
  | 6 => .int .i64 0
  | 7 => .slice (some ⟨T.vb i, 0, none⟩) 1 (T.vc i)
  | 8 => .int .i64 (S.ent i : Nat)
  | _ => .int .i64 0

def enC (T : TA) (S : St) (i j : Nat) : Value :=
  match j with
  | 0 => .int .i64 (S.e i).kind
  | 1 => .int .i64 (S.e i).lit
  | 2 => .slice (T.wa i) (S.e i).why.length (T.wc i)
  | 3 => .int .i64 0
  | 4 => .int .i64 0
  | 5 => .bool false
  | 6 => .bool false
  | 7 => .slice none 0 0
  | 8 => .slice none 0 0
  | 9 => .int .i64 0
  | _ => .int .i64 (S.e i).lev

/-- The blocks that a trail writes. -/
def TA.F (T : TA) (k : Nat) : Prop := k = T.bt ∨ k = T.ba ∨ T.ev.ownBlock = some k

structure Tr (w : World) (T : TA) (S : St) : Prop where
  head : w.heap[T.bt]? = some (.cells #[T.ms, .slice (some ⟨T.ba, 0, none⟩) S.n T.ca, T.mat, T.mof, .map (some T.mv), T.ev, .int .i64 S.lv] 103 (0, 0))
  atoms : w.ownsRow 0 122 10 (.slice (some ⟨T.ba, 0, none⟩) S.n T.ca) S.n (rowC S.n 10 (atC T S))
  ents : w.ownsRow 0 68 11 T.ev S.m (rowC S.m 11 (enC T S))
  vals : MapV w Tryz.prog 3 T.mv 0 (fun _ => none)
  vars : ∀ i, i < S.n → w.cell? ⟨T.vb i, 0, none⟩ = some (.int .i64 (S.A i)) ∧ 0 ≤ S.A i ∧ I64 (S.A i) ∧ ¬ T.F (T.vb i) ∧ T.vb i < w.heap.size
  whys : ∀ i, i < S.m → Ints w (T.wa i) (T.wc i) (S.e i).why ∧ ((S.e i).why = [] ∨ Apart T.F (T.wa i))
  ne1 : T.bt ≠ T.ba
  ne2 : T.ev.ownBlock ≠ some T.bt
  ne3 : T.ev.ownBlock ≠ some T.ba
  ne4 : ¬ T.F T.mv
  ent : ∀ i, i < S.n → S.ent i = 0 ∨ (S.ent i ≤ S.m ∧ (S.e (S.ent i - 1)).lit.natAbs = i + 1)
  few : S.n ≤ 1000
  fewE : S.m ≤ 1000
  pos : 0 < S.n
  lvl : 0 ≤ S.lv ∧ S.lv ≤ 1000

theorem rowC_get {n k : Nat} {g : Nat → Nat → Value} {i j : Nat} (hi : i < n) (hj : j < k) : (rowC n k g)[i * k + j]? = some (g i j) := by
  have h1 : i * k + j < n * k := by
    have : (i + 1) * k ≤ n * k := Nat.mul_le_mul_right _ hi
    rw [Nat.add_mul] at this; omega
  have h2 : (i * k + j) / k = i := by rw [Nat.mul_comm, Nat.mul_add_div (by omega), Nat.div_eq_of_lt hj]; rfl
  have h3 : (i * k + j) % k = j := by rw [Nat.mul_comm, Nat.mul_add_mod, Nat.mod_eq_of_lt hj]
  rw [rowC, List.getElem?_map, List.getElem?_range h1]
  simp [h2, h3]
theorem rowC_congr {n k : Nat} {g g' : Nat → Nat → Value} (h : ∀ i j, i < n → j < k → g i j = g' i j) : rowC n k g = rowC n k g' := by
  apply List.map_congr_left
  intro q hq
  have hq' : q < n * k := by simpa using hq
  have hk : 0 < k := by rcases Nat.eq_zero_or_pos k with h | h; (subst h; simp at hq'); exact h
  exact h _ _ (Nat.div_lt_of_lt_mul (by rw [Nat.mul_comm]; exact hq')) (Nat.mod_lt _ hk)
theorem rowC_len (n k : Nat) (g : Nat → Nat → Value) : (rowC n k g).length = n * k := by simp [rowC]

section
variable {w : World} {T : TA} {S : St}
theorem Tr.lt (h : Tr w T S) : T.bt < w.heap.size := (Array.getElem?_eq_some_iff.1 h.head).1
theorem Tr.cells (h : Tr w T S) : w.cell? ⟨T.bt, 1, none⟩ = some (.slice (some ⟨T.ba, 0, none⟩) S.n T.ca) ∧ w.cell? ⟨T.bt, 4, none⟩ = some (.map (some T.mv)) ∧ w.cell? ⟨T.bt, 5, none⟩ = some T.ev ∧ w.cell? ⟨T.bt, 6, none⟩ = some (.int .i64 S.lv) := by
  simp [World.cell?, h.head]
theorem Tr.frozen (h : Tr w T S) (o : Nat) : w.frozen? ⟨T.bt, o, none⟩ = false := by simp [World.frozen?, h.head]
theorem Tr.atom (h : Tr w T S) {i j : Nat} (hi : i < S.n) (hj : j < 10) : w.cell? ⟨T.ba, i * 10 + j, none⟩ = some (atC T S i j) := by
  have := h.atoms.cells (g := T.ba) rfl (i * 10 + j) _ (rowC_get hi hj)
  have hadd : (⟨T.ba, 0, none⟩ : Addr).add (i * 10 + j) = ⟨T.ba, i * 10 + j, none⟩ := by unfold Addr.add; split <;> simp_all
  rwa [hadd] at this
theorem Tr.atomF (h : Tr w T S) (o : Nat) : w.frozen? ⟨T.ba, o, none⟩ = false := by
  rcases h.atoms.2 with ⟨h0, _⟩ | ⟨g, cap, cur, hv, _, hg, _⟩
  · cases h0
  · cases hv
    simp [World.frozen?, hg]
theorem Tr.atomLt (h : Tr w T S) : T.ba < w.heap.size := (h.atoms.lt T.ba rfl).2
theorem Tr.ev (h : Tr w T S) (hm : 0 < S.m) : ∃ be ce, T.ev = .slice (some ⟨be, 0, none⟩) S.m ce ∧ be < w.heap.size ∧ ∀ i j, i < S.m → j < 11 → w.cell? ⟨be, i * 11 + j, none⟩ = some (enC T S i j) := by
  rcases h.ents.2 with ⟨_, h0⟩ | ⟨g, cap, cur, hv, _, hg, _⟩
  · omega
  · refine ⟨g, cap, hv, (Array.getElem?_eq_some_iff.1 hg).1, fun i j hi hj => ?_⟩
    have := h.ents.cells (g := g) (by rw [hv]; rfl) (i * 11 + j) _ (rowC_get hi hj)
    have hadd : (⟨g, 0, none⟩ : Addr).add (i * 11 + j) = ⟨g, i * 11 + j, none⟩ := by unfold Addr.add; split <;> simp_all
    rwa [hadd] at this
/-- What leaves the trail's blocks as they are leaves the trail. -/
theorem Tr.upd {w' : World} {F : Nat → Prop} (h : Tr w T S) (hu : Upd F w w') (hF : ∀ k, F k → ¬ T.F k ∧ k ≠ T.mv ∧ (∀ i, i < S.n → k ≠ T.vb i) ∧ ∀ i, i < S.m → (S.e i).why ≠ [] → ∀ p, T.wa i = some p → k ≠ p.block) : Tr w' T S where
  head := by rw [hu.block T.bt h.lt (fun e => (hF _ e).1 (.inl rfl))]; exact h.head
  atoms := ownsRow_upd h.atoms hu (fun b hb e => (hF _ e).1 (.inr (.inl (by simpa [Value.ownBlock] using hb.symm))))
  ents := ownsRow_upd h.ents hu (fun b hb e => (hF _ e).1 (.inr (.inr hb)))
  vals := h.vals.upd hu (fun e => (hF _ e).2.1 rfl)
  vars := fun i hi => by
    obtain ⟨h1, h2, h3, h4, h5⟩ := h.vars i hi
    exact ⟨by rw [hu.cell h5 (fun e => (hF _ e).2.2.1 i hi rfl)]; exact h1, h2, h3, h4, Nat.lt_of_lt_of_le h5 hu.size⟩
  whys := fun i hi => ⟨(h.whys i hi).1.upd' hu (fun hne p hp e => (hF _ e).2.2.2 i hi hne p hp rfl), (h.whys i hi).2⟩
  ne1 := h.ne1
  ne2 := h.ne2
  ne3 := h.ne3
  ne4 := h.ne4
  ent := h.ent
  few := h.few
  fewE := h.fewE
  pos := h.pos
  lvl := h.lvl
theorem Tr.mono {w' : World} (h : Tr w T S) (hb : Below w.heap.size w w') : Tr w' T S := h.upd (F := fun _ => False) (.of hb) (fun _ h => h.elim)
end

/-- Is there such a literal? -/
def St.is (S : St) (k : Int) : Bool := decide (k ≠ 0) && decide (-(S.n : Int) ≤ k) && decide (k ≤ S.n)
/-- A literal's value. -/
def St.val (S : St) (k : Int) : Int :=
  if S.is k then
    if S.ent (k.natAbs - 1) = 0 then 0
    else if ((S.e (S.ent (k.natAbs - 1) - 1)).lit < 0) = (k < 0) then 1 else -1
  else 0

theorem wrap_back {j : Int} (h0 : 0 ≤ j) (h1 : j < 18446744073709551616) : IntKind.u64.wrap (-IntKind.u64.wrap (-j)) = j := by
  have hw : ∀ x : Int, IntKind.u64.wrap x = x % 18446744073709551616 := fun x => by simp [IntKind.wrap, IntKind.signed, IntKind.bits]
  rw [hw, hw]
  omega
theorem wrap_fits {j : Int} (h0 : 0 ≤ j) (h1 : j < 18446744073709551616) : IntKind.u64.wrap j = j := by
  have hw : ∀ x : Int, IntKind.u64.wrap x = x % 18446744073709551616 := fun x => by simp [IntKind.wrap, IntKind.signed, IntKind.bits]
  rw [hw]
  omega

theorem size_any (w : World) (k : Int) (hk : I64 k) : Calls Tryz.prog 60 #[.int .i64 k] w (RetS w fun v => v = .int .u64 (k.natAbs : Nat)) := by
  unfold I64 at hk
  by_cases h0 : k < 0
  · obtain ⟨j, rfl⟩ : ∃ j : Nat, k = -(j : Int) := ⟨k.natAbs, by omega⟩
    have H : Hid (IntKind.u64.wrap (-IntKind.u64.wrap (-(j : Int))) = ((-(j : Int)).natAbs : Nat)) := by
      show _ = _
      rw [wrap_back (by omega) (by omega)]; omega
    go_enter Tryz.func60, Tryz.ntmps60
    go_wp2_with fail
    rw [H.out]
    go_ret
    exact ⟨_, rfl, rfl, rfl⟩
  · obtain ⟨j, rfl⟩ : ∃ j : Nat, k = (j : Int) := ⟨k.natAbs, by omega⟩
    go_enter Tryz.func60, Tryz.ntmps60
    go_wp2_with fail
    go_ret
    exact ⟨_, rfl, rfl, rfl⟩

theorem is_any {w : World} {T : TA} {S : St} (h : Tr w T S) (k : Int) (hk : I64 k) : Calls Tryz.prog 66 #[.pointer (some ⟨T.bt, 0, none⟩), .int .i64 k] w (RetS w fun v => v = .bool (S.is k)) := by
  obtain ⟨c1, c4, c5, c6⟩ := h.cells
  have hf := h.few
  unfold I64 at hk
  have H : Hid (S.is k = (decide (k ≠ 0) && decide (-(S.n : Int) ≤ k) && decide (k ≤ S.n))) := rfl
  clear c4 c5 c6 h
  by_cases h0 : k = 0
  · subst h0
    go_enter Tryz.func66, Tryz.ntmps66
    go_wp2_with fail
    go_ret
    exact ⟨_, rfl, rfl, by rw [H.out]; simp⟩
  by_cases h1 : k < -(S.n : Int)
  · go_enter Tryz.func66, Tryz.ntmps66
    go_wp2_with fail
    go_ret
    exact ⟨_, rfl, rfl, by rw [H.out]; simp; omega⟩
  · go_enter Tryz.func66, Tryz.ntmps66
    go_wp2_with fail
    go_ret
    exact ⟨_, rfl, rfl, by rw [H.out]; simp [h0, show -(S.n : Int) ≤ k by omega]⟩

def noVal : Value := .agg #[.int .i64 0, .bool false, .bool false, .slice none 0 0, .slice none 0 0, .int .i64 0]
theorem Tr.alloc {w : World} {T : TA} {S : St} (h : Tr w T S) (o : Obj) : Tr (w.alloc o) T S := h.mono ((Below.refl _ _).alloc (Nat.le_refl _) _)

theorem given_none {w : World} {T : TA} {S : St} (h : Tr w T S) (id : Int) (hi : 0 ≤ id) (hI : I64 id) :
    Calls Tryz.prog 54 #[.pointer (some ⟨T.bt, 0, none⟩), .int .i64 id, .int .i64 (-1), .agg #[.int .i64 0, .bool false, .bool false, .slice none 0 0, .slice none 0 0, .int .i64 0]] w
      (Ret w fun v _ => v = .tuple #[.agg #[.int .i64 0, .bool false, .bool false, .slice none 0 0, .slice none 0 0, .int .i64 0], .bool false]) := by
  obtain ⟨c1, c4, c5, c6⟩ := h.cells
  have hlt := h.lt
  have hne : (id == -1) = false := by simp; omega
  have HK := key_int (k := 3) Tryz.underlying3 hI
  have hV := h.vals
  clear h
  go_enter Tryz.func54, Tryz.ntmps54
  go_wp2_with (first | (at_lookup; refine wpList_lookV_ok rfl _ _ 97 rfl 3 3 (Maps.int_keyed Tryz.underlying3) Tryz.underlying97 (Tryz.zeroValue3 _) _ 0 (fun _ => none) rfl (MapV.alloc (MapV.alloc hV _) _) _ _ rfl HK ?_) | fail)
  exact bodyPost_ret (v := .tuple #[.agg #[.int .i64 0, .bool false, .bool false, .slice none 0 0, .slice none 0 0, .int .i64 0], .bool false]) (by simp [results, Tryz.results54, go_sem]) rfl
    ⟨_, rfl, ((Below.refl _ _).alloc (Nat.le_refl _) _).alloc (by simp) _, rfl⟩

theorem by_none {w : World} {T : TA} {S : St} (h : Tr w T S) (i : Nat) (hi : i < S.n) :
    Calls Tryz.prog 117 #[.pointer (some ⟨T.bt, 0, none⟩), .pointer (some ⟨T.ba, i * 10, none⟩), .int .i64 (-1), .agg #[.int .i64 0, .bool false, .bool false, .slice none 0 0, .slice none 0 0, .int .i64 0]] w
      (Ret w fun v _ => v = .int .i64 0) := by
  have hc := h.atom hi (j := 7) (by omega)
  obtain ⟨hv, hA, hI, _, hvb⟩ := h.vars i hi
  have hat := h.atomLt
  simp only [atC] at hc
  have HT := Lib.hid h
  have hc3 : ∀ o1 o2 o3, (((w.alloc o1).alloc o2).alloc o3).cell? ⟨T.ba, i * 10 + 7, none⟩ = some (.slice (some ⟨T.vb i, 0, none⟩) 1 (T.vc i)) := fun o1 o2 o3 => (((HT.out.alloc o1).alloc o2).alloc o3).atom hi (j := 7) (by omega)
  have hv3 : ∀ o1 o2 o3, (((w.alloc o1).alloc o2).alloc o3).cell? ⟨T.vb i, 0, none⟩ = some (.int .i64 (S.A i)) := fun o1 o2 o3 => ((((HT.out.alloc o1).alloc o2).alloc o3).vars i hi).1
  clear h hc hv
  go_enter Tryz.func117, Tryz.ntmps117
  go_wp2_with fail
  refine wp_loop_once ?_
  go_wp2_with fail
  with_reducible refine (given_none (((HT.out.alloc _).alloc _).alloc _) _ hA hI).mono ?_
  rintro e w' ⟨v, rfl, hb, rfl⟩
  have hB : Below w.heap.size w w' := Below.trans (((((Below.refl _ _).alloc (Nat.le_refl _) _).alloc (by simp) _).alloc (by simp; omega) _)) (hb.mono (by simp; omega))
  have HB := Lib.hid hB
  clear hB hb
  go_wp2_with fail
  go_ret
  exact ⟨_, rfl, HB.out.alloc HB.out.size _, rfl⟩

theorem sense_none {w : World} {T : TA} {S : St} (h : Tr w T S) (i : Nat) (hi : i < S.n) :
    Calls Tryz.prog 67 #[.pointer (some ⟨T.bt, 0, none⟩), .pointer (some ⟨T.ba, i * 10, none⟩)] w
      (Ret w fun v _ => v = .int .i64 0) := by
  have hc := h.atom hi (j := 9) (by omega)
  have hfr := h.atomF
  have hat := h.atomLt
  simp only [atC] at hc
  have HT := Lib.hid h
  clear h
  go_enter Tryz.func67, Tryz.ntmps67
  go_wp2_with fail
  with_reducible refine (by_none HT.out _ hi).mono ?_
  rintro e w' ⟨v, rfl, hb, rfl⟩
  have hc2 : w'.cell? ⟨T.ba, i * 10 + 9, none⟩ = some (.int .i64 0) := (HT.out.mono hb).atom hi (j := 9) (by omega)
  have hfr' : w'.frozen? ⟨T.ba, i * 10 + 9, none⟩ = false := (HT.out.mono hb).atomF _
  have HB := Lib.hid hb
  clear hb hc hfr hat
  go_wp2_with fail
  rw [setCell_same hc2]
  go_ret
  exact ⟨_, rfl, HB.out, rfl⟩

theorem size_quiet (w : World) (x : Nat) (k : Int) (hk : I64 k) (i : Nat) (hi : k.natAbs = i + 1) : Calls Tryz.prog 60 #[.int .i64 k] (w.drewN x) fun e w' => e = .returned (.int .u64 ((i : Int) + 1)) ∧ ∃ m, w' = w.drewN m :=
  (size_any (w.drewN x) k hk).mono fun e w' ⟨v, he, hw, hv⟩ => ⟨by rw [he, hv, hi]; simp, x, hw.symm⟩

theorem Tr.drewN {w : World} {T : TA} {S : St} (h : Tr w T S) (q : Nat) : Tr (w.drewN q) T S := h.mono ((Below.refl _ _).drewN q)

theorem lit_zero {w : World} {T : TA} {S : St} (h : Tr w T S) (k : Int) (hk : I64 k) (hs : S.is k = true) (h0 : S.ent (k.natAbs - 1) = 0) :
    Calls Tryz.prog 28 #[.pointer (some ⟨T.bt, 0, none⟩), .int .i64 k] w (Ret w fun v _ => v = .int .i64 0) := by
  obtain ⟨i, hi, hin⟩ : ∃ i, k.natAbs = i + 1 ∧ i < S.n := by
    simp only [St.is, Bool.and_eq_true, decide_eq_true_eq] at hs
    exact ⟨k.natAbs - 1, by omega, by omega⟩
  rw [hi] at h0
  have h0' : S.ent i = 0 := h0
  have hf := h.few
  have HT := Lib.hid h
  have HK := Lib.hid hk
  have HI := Lib.hid hi
  have HS := is_any h k hk
  rw [hs] at HS
  have HS' := Lib.hid HS
  obtain ⟨c1, c4, c5, c6⟩ := h.cells
  have e1 := h.atom hin (j := 8) (by omega)
  simp only [atC, h0'] at e1
  have e2 : w.cell? ⟨T.ba, i * 10 + 8, none⟩ = some (.int .i64 0) := e1
  have hat := h.atomLt
  clear HS h hk hi c4 c5 c6 hs h0 e1 h0'
  by_cases hneg : k < 0
  all_goals
    go_enter Tryz.func28, Tryz.ntmps28
    go_wp2_with fail
    with_reducible refine HS'.out.mono ?_
    rintro e w' ⟨v, rfl, rfl, rfl⟩
    go_wp2_with fail
    go_quiet ((go_at_call 60; go_must (exact size_quiet _ _ _ HK.out i HI.out)))
    go_wp2_with fail
    with_reducible refine (sense_none (HT.out.drewN _) i hin).mono ?_
    rintro e w' ⟨v, rfl, hb, rfl⟩
    have HB := Lib.hid hb
    clear hb
    go_wp2_with fail
    go_ret
    exact ⟨_, rfl, Below.trans ((Below.refl _ _).drewN _) HB.out, rfl⟩

theorem lit_some {w : World} {T : TA} {S : St} (h : Tr w T S) (k : Int) (hk : I64 k) (hs : S.is k = true) (h0 : S.ent (k.natAbs - 1) ≠ 0) :
    Calls Tryz.prog 28 #[.pointer (some ⟨T.bt, 0, none⟩), .int .i64 k] w
      (Ret w fun v _ => v = .int .i64 (if ((S.e (S.ent (k.natAbs - 1) - 1)).lit < 0) = (k < 0) then 1 else -1)) := by
  obtain ⟨i, hi, hin⟩ : ∃ i, k.natAbs = i + 1 ∧ i < S.n := by
    simp only [St.is, Bool.and_eq_true, decide_eq_true_eq] at hs
    exact ⟨k.natAbs - 1, by omega, by omega⟩
  rw [hi] at h0 ⊢
  have h0' : S.ent i ≠ 0 := h0
  obtain ⟨hjm, hjl⟩ := (h.ent i hin).resolve_left h0'
  obtain ⟨j, hj⟩ : ∃ j, S.ent i = j + 1 := ⟨S.ent i - 1, by omega⟩
  have hG : (if ((S.e (S.ent (i + 1 - 1) - 1)).lit < 0) = (k < 0) then (1 : Int) else -1) = if ((S.e j).lit < 0) = (k < 0) then 1 else -1 := by
    show (if ((S.e (S.ent i - 1)).lit < 0) = (k < 0) then (1 : Int) else -1) = _
    rw [hj]; rfl
  rw [hG]
  rw [hj] at hjm hjl
  have hjl' : (S.e j).lit.natAbs = i + 1 := hjl
  have hfE := h.fewE
  have hf := h.few
  have HT := Lib.hid h
  have HK := Lib.hid hk
  have HI := Lib.hid hi
  have HS := is_any h k hk
  rw [hs] at HS
  have HS' := Lib.hid HS
  obtain ⟨c1, c4, c5, c6⟩ := h.cells
  obtain ⟨be, ce, hev, hbe, hec⟩ := h.ev (by omega)
  rw [hev] at c5
  have e1 := h.atom hin (j := 8) (by omega)
  simp only [atC, hj] at e1
  have e2 : w.cell? ⟨T.ba, i * 10 + 8, none⟩ = some (.int .i64 ((j : Int) + 1)) := by rw [e1]; simp
  have e3 := hec j 1 (by omega) (by omega)
  simp only [enC] at e3
  have hat := h.atomLt
  have hjm' : j < S.m := by omega
  clear HS h hk hi c4 c6 hs h0 e1 h0' hG hj hjl hec hev hjm
  generalize (S.e j).lit = l at *
  by_cases hneg : k < 0
  all_goals
    by_cases hl : l < 0
    all_goals
      first
      | (have hR : (if (l < 0) = (k < 0) then (1 : Int) else -1) = 1 := by (rw [if_pos (by simp only [eq_iff_iff]; omega)])
         rw [hR]
         clear hR)
      | (have hR : (if (l < 0) = (k < 0) then (1 : Int) else -1) = -1 := by (rw [if_neg (by simp only [eq_iff_iff]; omega)])
         rw [hR]
         clear hR)
      go_enter Tryz.func28, Tryz.ntmps28
      go_wp2_with fail
      with_reducible refine HS'.out.mono ?_
      rintro e w' ⟨v, rfl, rfl, rfl⟩
      go_wp2_with fail
      go_quiet ((go_at_call 60; go_must (exact size_quiet _ _ _ HK.out i HI.out)))
      go_wp2_with fail
      go_quiet (fail)
      go_wp2_with fail
      go_ret
      exact ⟨_, rfl, (Below.refl _ _).drewN _, rfl⟩

/-- A literal's value. -/
theorem lit_any {w : World} {T : TA} {S : St} (h : Tr w T S) (k : Int) (hk : I64 k) :
    Calls Tryz.prog 28 #[.pointer (some ⟨T.bt, 0, none⟩), .int .i64 k] w (Ret w fun v _ => v = .int .i64 (S.val k)) := by
  unfold St.val
  cases hs : S.is k with
  | false =>
    rw [if_neg (by decide)]
    have HS := is_any h k hk
    rw [hs] at HS
    have HS' := Lib.hid HS
    clear HS h hs
    go_enter Tryz.func28, Tryz.ntmps28
    go_wp2_with fail
    with_reducible refine HS'.out.mono ?_
    rintro e w' ⟨v, rfl, rfl, rfl⟩
    go_wp2_with fail
    go_ret
    exact ⟨_, rfl, Below.refl _ _, rfl⟩
  | true =>
    rw [if_pos rfl]
    by_cases h0 : S.ent (k.natAbs - 1) = 0
    · rw [if_pos h0]; exact lit_zero h k hk hs h0
    · rw [if_neg h0]; exact lit_some h k hk hs h0
end Go.Proofs.YtodeddappmfphaaGreatDoor
