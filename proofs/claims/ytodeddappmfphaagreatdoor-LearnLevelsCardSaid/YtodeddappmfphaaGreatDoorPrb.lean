/- Problems of Bools in a row; what the trail goes through, put shortly. -/
import Derived.Test.YtodeddappmfphaaGreatDoorNew
import Derived.Test.YtodeddappmfphaaGreatDoorAnd
namespace Go.Thd
open Go.RowKit
open Classical in
/-- The constants s, s + 1, .. -/
noncomputable def idsL (n s : Nat) : List I6 := (List.range n).map fun j => if h : I64 ((j + s : Nat) : Int) then ⟨((j + s : Nat) : Int), h⟩ else i0
theorem idsL_len (n s : Nat) : (idsL n s).length = n := by simp [idsL]
theorem idsL_get {n s j : Nat} (hj : j < n) (hs : n + s ≤ 1000) : ((idsL n s)[j]?.getD i0).1 = ((j + s : Nat) : Int) := by
  have h : I64 ((j + s : Nat) : Int) := by unfold I64; omega
  unfold idsL
  rw [List.getElem?_map, List.getElem?_range hj]
  simp only [Option.map_some, Option.getD_some]
  rw [dif_pos h]
theorem srtF_all {zs : List I6} {x : Int} {j : Nat} (hj : j < zs.length) (hx : (zs[j]?.getD i0).1 = x) : srtF (upto (bk zs) zs.length) x = some (.int .i64 0) := by
  unfold srtF
  rw [if_pos]
  refine List.any_eq_true.2 ⟨bk zs (zs.length - 1 - j), ?_, ?_⟩
  · unfold upto
    exact List.mem_map.2 ⟨zs.length - 1 - j, by simp; omega, rfl⟩
  · unfold bk
    rw [show zs.length - 1 - (zs.length - 1 - j) = j from by omega]
    simpa using hx
theorem Ints.alloc {w : World} {a : Option Addr} {c : Nat} {l : List Int} (h : Ints w a c l) (o : Obj) : Ints (w.alloc o) a c l := h.mono ((Below.refl _ _).alloc (Nat.le_refl _) _)
end Go.Thd
namespace Go.Proofs.YtodeddappmfphaaGreatDoor
open Go.RowKit Go.Thd

theorem prob_of {w : World} {bv cv ba ca n s : Nat} (hs : n + s ≤ 100) (hv : bv < w.heap.size) (ha : ba < w.heap.size)
    (hV : ∀ j, j < n → w.cell? ⟨bv, j * 2, none⟩ = some (.int .i64 ((j + s : Nat) : Int)) ∧ w.cell? ⟨bv, j * 2 + 1, none⟩ = some (.int .i64 0)) (hA : AtomsAt w ba 0 n (fun j => j + s)) : Prob w bv cv ba ca (idsL n s) n (fun j => j + s) where
  vlt := hv
  vars := fun j hj => by
    rw [idsL_len] at hj
    rw [idsL_get hj (by omega), Nat.zero_add]
    exact hV j hj
  alt := ha
  atoms := hA
  few := by omega
  fewV := by rw [idsL_len]; omega
  pos := fun j hj => by
    rw [idsL_len] at hj
    rw [idsL_get hj (by omega)]; omega
  inc := fun j hj => by
    rw [idsL_len] at hj
    rw [idsL_get (by omega) (by omega), idsL_get hj (by omega)]; omega
  small := fun j hj => by show j + s < 100; omega
  diff := fun j k hjk hk => by show j + s ≠ k + s; omega
  speak := fun j hj => srtF_all (j := j) (by rw [idsL_len]; exact hj) (idsL_get hj (by omega))

/-- A trail, all of whose blocks lie from B on. -/
structure TrB (B : Nat) (w0 w : World) (T : TA) (S : St) : Prop where
  tr : Tr w T S
  own : ∀ j, T.F j → B ≤ j
  below : Below B w0 w
  size : B ≤ w.heap.size
theorem TrB.mono {B : Nat} {w0 w w' : World} {T : TA} {S : St} (h : TrB B w0 w T S) (hb : Below w.heap.size w w') : TrB B w0 w' T S :=
  ⟨h.tr.mono hb, h.own, h.below.trans (hb.mono h.size), Nat.le_trans h.size hb.size⟩
theorem TrB.goes {B : Nat} {w0 w w' : World} {T : TA} {S S' : St} (h : TrB B w0 w T S) (hg : Goes w T S' w') : ∃ T', TrB B w0 w' T' S' ∧ T'.bt = T.bt := by
  obtain ⟨hU, T', hT', hbt, hF⟩ := hg
  refine ⟨T', ⟨hT', fun j hj => ?_, h.below.trans (hU.below (fun k hk hk' => by have := h.own k hk'; omega) h.size), Nat.le_trans h.size hU.size⟩, hbt⟩
  rcases hF j hj with h1 | h1
  · exact h.own j h1
  · exact Nat.le_trans h.size h1
theorem decide_B {B : Nat} {w0 w : World} {T : TA} {S : St} {bt : Nat} (h : TrB B w0 w T S) (hbt : T.bt = bt) (k : Int) (hk : I64 k) (hs : S.is k = true) (hv : S.val k = 0) (hm : S.m < 1000) (hl : S.lv < 1000) :
    Calls Tryz.prog 29 #[.pointer (some ⟨bt, 0, none⟩), .int .i64 k] w fun e w' => e = .returned (.int .i64 0) ∧ ∃ T', TrB B w0 w' T' (S.up.put 1 k []) ∧ T'.bt = bt := by
  subst hbt
  exact (decide_ok h.tr k hk hs hv hm hl).mono fun e w' ⟨he, hg⟩ => ⟨he, h.goes hg⟩
theorem force_B {B : Nat} {w0 w : World} {T : TA} {S : St} {bt : Nat} (h : TrB B w0 w T S) (hbt : T.bt = bt) (k : Int) (hk : I64 k) (hs : S.is k = true) (hv : S.val k = 0) (hm : S.m < 1000) (a : Option Addr) (n c : Nat) (why : List Int) (hn : n = why.length) (hw : Ints w a c why) (ha : Apart T.F a)
    (hfw : why.length ≤ 100000) (hI : ∀ x ∈ why, I64 x) (hin : k ∈ why) (hall : ∀ x ∈ why, x ≠ k → S.val x = -1) :
    Calls Tryz.prog 35 #[.pointer (some ⟨bt, 0, none⟩), .int .i64 k, .slice a n c] w fun e w' => e = .returned (.int .i64 0) ∧ ∃ T', TrB B w0 w' T' (S.put 2 k why) ∧ T'.bt = bt := by
  subst hbt; subst hn
  exact (force_ok h.tr k hk hs hv hm a c why hw ha hfw hI hin hall).mono fun e w' ⟨he, hg⟩ => ⟨he, h.goes hg⟩
/-- A row of ints that was just made. -/
theorem ints_new (w : World) (l : List Int) (t : TypeId) : Ints (w.alloc (.cells (l.map (Value.int .i64)).toArray t)) (some ⟨w.heap.size, 0, none⟩) l.length l := by
  refine ⟨Nat.le_refl _, .inr ⟨w.heap.size, 0, rfl, by simp, fun j hj => ?_⟩⟩
  have := news_cells w (l.map (Value.int .i64)) t j (.int .i64 (l.getD j 0)) (by rw [List.getElem?_map, List.getElem?_eq_getElem hj, getD_eq l hj]; rfl)
  have hadd : (⟨w.heap.size, 0, none⟩ : Addr).add j = ⟨w.heap.size, 0 + j, none⟩ := by unfold Addr.add; split <;> simp_all
  rw [hadd] at this
  exact this
theorem apart_alloc {w : World} {T : TA} {S : St} (h : Tr w T S) : Apart T.F (some ⟨w.heap.size, 0, none⟩) := by
  intro p hp hF
  injection hp with hp
  subst hp
  have := h.Flt hF
  exact absurd this (Nat.lt_irrefl _)

theorem new_B (w : World) (bv cv ba ca n s : Nat) (h : Prob w bv cv ba ca (idsL n s) n (fun j => j + s)) (h0 : 0 < n) (hn : n ≤ 1000) :
    Calls Tryz.prog 12 #[.agg #[.slice (some ⟨bv, 0, none⟩) n cv, .slice (some ⟨ba, 0, none⟩) n ca, .slice none 0 0, .slice none 0 0]] w
      fun e w' => ∃ T, e = .returned (.tuple #[.pointer (some ⟨T.bt, 0, none⟩), .int .i64 0]) ∧ TrB w.heap.size w w' T (S0 n (fun j => j + s)) := by
  have := new_ok w bv cv ba ca (idsL n s) n (fun j => j + s) h h0 hn
  rw [idsL_len] at this
  exact this.mono fun e w' ⟨v, he, hb, T, hv, hT, hF⟩ => ⟨T, by rw [he, hv], hT, hF, hb, hb.size⟩
theorem analyze_one_B {B : Nat} {w0 w : World} {T : TA} {S : St} {bt : Nat} (h : TrB B w0 w T S) (hbt : T.bt = bt) {n P : Nat} {L : Int} (hR : Row S n P L) (hL : L ≤ 1000) (a : Option Addr) (c : Nat) (hn1 : 1 ≤ n) (hl : Ints w a c [-(n : Int)]) :
    Calls Tryz.prog 36 #[.pointer (some ⟨bt, 0, none⟩), .slice a 1 c] w (Ret w fun v w' => ∃ b c, v = .tuple #[.slice (some ⟨b, 0, none⟩) 1 c, .int .i64 0, .int .i64 0] ∧ Ints w' (some ⟨b, 0, none⟩) c [-(n : Int)]) := by
  subst hbt; exact analyze_one h.tr hR hL a c hn1 hl
theorem analyze_row_B {B : Nat} {w0 w : World} {T : TA} {S : St} {bt : Nat} (h : TrB B w0 w T S) (hbt : T.bt = bt) {n P : Nat} {L : Int} (hR : Row S n P L) (hL : L ≤ 1000) (a : Option Addr) (c : Nat) (k : Nat) (hk1 : 1 ≤ k) (hkn : k < n) (x y : Int) (hxy : (x = -(n : Int) ∧ y = -(k : Int)) ∨ (x = -(k : Int) ∧ y = -(n : Int))) (hl : Ints w a c [x, y]) :
    Calls Tryz.prog 36 #[.pointer (some ⟨bt, 0, none⟩), .slice a 2 c] w (Ret w fun v w' => ∃ b c, v = .tuple #[.slice (some ⟨b, 0, none⟩) 1 c, .int .i64 0, .int .i64 0] ∧ Ints w' (some ⟨b, 0, none⟩) c [-(k : Int)]) := by
  subst hbt; exact analyze_row h.tr hR hL a c k hk1 hkn x y hxy hl
theorem analyze_state_B {B : Nat} {w0 w : World} {T : TA} {S : St} {bt : Nat} (h : TrB B w0 w T S) (hbt : T.bt = bt) (a : Option Addr) (c : Nat) (x : Int) (hl : Ints w a c [x]) (hx : x ≠ 0) (hxI : I64 x) (hin : x.natAbs ≤ S.n) (hv : S.val x ≠ -1) :
    Calls Tryz.prog 36 #[.pointer (some ⟨bt, 0, none⟩), .slice a 1 c] w (Ret w fun v _ => v = .tuple #[.slice none 0 0, .int .i64 0, .int .i64 6]) := by
  subst hbt; exact analyze_state h.tr a c x hl hx hxI hin hv
theorem analyze_always_B {B : Nat} {w0 w : World} {T : TA} {S : St} {bt : Nat} (_h : TrB B w0 w T S) (hbt : T.bt = bt) (a : Option Addr) (c : Nat) (x y : Int) (hl : Ints w a c [x, y]) (hx : x ≠ 0) (hy : y ≠ 0) (hxI : I64 x) (hyI : I64 y) (hne : x ≠ y) (hab : x.natAbs = y.natAbs) :
    Calls Tryz.prog 36 #[.pointer (some ⟨bt, 0, none⟩), .slice a 2 c] w (Ret w fun v _ => v = .tuple #[.slice none 0 0, .int .i64 0, .int .i64 1]) := by
  subst hbt; exact analyze_always w T a c x y hl hx hy hxI hyI hne hab
theorem analyze_nil_B {B : Nat} {w0 w : World} {T : TA} {S : St} {bt : Nat} (_h : TrB B w0 w T S) (hbt : T.bt = bt) :
    Calls Tryz.prog 36 #[.pointer (some ⟨bt, 0, none⟩), .slice none 0 0] w (Ret w fun v _ => v = .tuple #[.slice none 0 0, .int .i64 (-1), .int .i64 0]) := by
  subst hbt; exact analyze_nil w T
theorem levels_B {B : Nat} {w0 w : World} {T : TA} {S : St} {bt : Nat} (h : TrB B w0 w T S) (hbt : T.bt = bt) (a : Option Addr) (n c : Nat) (l : List Int) (hnl : n = l.length) (hl : Ints w a c l) (hn : l.length ≤ 1000) (hI : ∀ x ∈ l, I64 x) (hfw : ∀ i, i < S.m → (S.e i).why.length ≤ 100000) (hall : ∀ x ∈ l, S.level x ≠ -1) :
    Calls Tryz.prog 39 #[.pointer (some ⟨bt, 0, none⟩), .slice a n c] w (Ret w fun v w' => ∃ a' c', v = .tuple #[.slice a' n c', .int .i64 0] ∧ Ints w' a' c' (l.map S.level)) := by
  subst hbt; subst hnl
  exact (Levels_ok h.tr a c l hl hn hI hfw hall).mono fun e w' ⟨v, he, hb, u, hv, hO, _⟩ => by
    obtain ⟨a', c', rfl, hi, _⟩ := hO.slice
    rw [List.length_map] at hv
    exact ⟨v, he, hb, a', c', hv, hi⟩
theorem levels_none_B {B : Nat} {w0 w : World} {T : TA} {S : St} {bt : Nat} (h : TrB B w0 w T S) (hbt : T.bt = bt) (a : Option Addr) (n c : Nat) (l : List Int) (hnl : n = l.length) (hl : Ints w a c l) (hn : l.length ≤ 1000) (hI : ∀ x ∈ l, I64 x) (hfw : ∀ i, i < S.m → (S.e i).why.length ≤ 100000) (hall : ∃ x ∈ l, S.level x = -1) :
    Calls Tryz.prog 39 #[.pointer (some ⟨bt, 0, none⟩), .slice a n c] w (Ret w fun v _ => v = .tuple #[.slice none 0 0, .int .i64 6]) := by
  subst hbt; subst hnl
  exact Levels_none h.tr a c l hl hn hI hfw hall
theorem place_B {B : Nat} {w0 w : World} {T : TA} {S : St} {bt : Nat} (h : TrB B w0 w T S) (hbt : T.bt = bt) (k : Int) (hk : I64 k) (hv : S.val k ≠ 0) :
    Calls Tryz.prog 38 #[.pointer (some ⟨bt, 0, none⟩), .int .i64 k] w (Ret w fun v _ => v = .tuple #[.int .i64 (S.ent (k.natAbs - 1) : Nat), .bool true]) := by
  subst hbt; exact learnPlace_some h.tr k hk hv
theorem place_none_B {B : Nat} {w0 w : World} {T : TA} {S : St} {bt : Nat} (h : TrB B w0 w T S) (hbt : T.bt = bt) (k : Int) (hk : I64 k) (hv : S.val k = 0) :
    Calls Tryz.prog 38 #[.pointer (some ⟨bt, 0, none⟩), .int .i64 k] w (Ret w fun v _ => v = .tuple #[.int .i64 0, .bool false]) := by
  subst hbt; exact learnPlace_none h.tr k hk hv
theorem ints_B (w : World) (a a' : Option Addr) (n m c c' : Nat) (l l' : List Int) (hn : n = l.length) (hm : m = l'.length) (hl : Ints w a c l) (hl' : Ints w a' c' l') (h1 : l.length ≤ 100000) (h2 : l'.length ≤ 100000) (r : Bool) (hr : decide (l = l') = r) :
    Calls Tryz.prog 37 #[.slice a n c, .slice a' m c'] w (Ret w fun v _ => v = .bool r) := by
  subst hn; subst hm; subst hr
  exact ints_any w a a' c c' l l' hl hl' h1 h2
theorem TrB.alloc {B : Nat} {w0 w : World} {T : TA} {S : St} (h : TrB B w0 w T S) (o : Obj) : TrB B w0 (w.alloc o) T S := h.mono ((Below.refl _ _).alloc (Nat.le_refl _) _)

/-- awake's trail: 3 decided, 1 decided, 2 forced. -/
def SA1 : St := (S0 3 (fun j => j + 1)).up.put 1 3 []
def SA2 : St := SA1.up.put 1 1 []
def SA3 : St := SA2.put 2 2 [2, -1]
theorem SA3_row : Row SA3 2 1 2 where
  val := fun i h1 h2 => by
    have : i = 1 ∨ i = 2 := by omega
    rcases this with rfl | rfl <;> decide
  lev := fun i h1 h2 => by
    have : i = 1 ∨ i = 2 := by omega
    rcases this with rfl | rfl <;> decide
  ent := fun i h1 h2 => by
    have : i = 1 ∨ i = 2 := by omega
    rcases this with rfl | rfl <;> decide
  inn := by decide
  inm := by decide
  kind1 := by decide
  kind := fun i h1 h2 => by
    obtain rfl : i = 2 := by omega
    decide
  why := fun i h1 h2 => by
    obtain rfl : i = 2 := by omega
    decide
  short := fun i hi => by
    have h3 : i < 3 := hi
    have : i = 0 ∨ i = 1 ∨ i = 2 := by omega
    rcases this with rfl | rfl | rfl <;> decide
  pos := by decide
  small := by decide
end Go.Proofs.YtodeddappmfphaaGreatDoor
