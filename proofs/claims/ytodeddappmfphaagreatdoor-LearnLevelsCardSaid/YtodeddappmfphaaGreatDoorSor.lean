/- cnf.Sorts: the constants' sorts, of constants that are all Bools (sort 0). -/
import Derived.RangeFuncNested
import Derived.RangeFuncBound
import Derived.RangeFuncCalls
import Derived.RangeFuncLeaves
import Derived.Shelf.Abstract
import Derived.Shelf.RegionOpen
import Derived.WalkKit
import Derived.OwnWalkIn
import Derived.TacticsInMore
import Derived.LoopNIn
import Derived.LoopIn
import Derived.Maps.OwnIn
import Derived.Test.YtodeddappmfphaaGreatDoorProg
import Derived.Test.YtodeddappmfphaaGreatDoorLst
import Derived.Lib.Hide
namespace Go.Thd
open Go.RowKit
/-- A number within int, with its proof. -/
abbrev I6 := { x : Int // I64 x }
def i0 : I6 := ⟨0, by unfold I64; omega⟩
/-- What has come when k rounds are over. -/
def upto {α : Type} (f : Nat → α) (k : Nat) : List α := (List.range k).map f
theorem upto_succ {α : Type} (f : Nat → α) (k : Nat) : upto f (k + 1) = upto f k ++ [f k] := by simp [upto, List.range_succ]
theorem upto_length {α : Type} (f : Nat → α) (k : Nat) : (upto f k).length = k := by simp [upto]
/-- What slices.Backward hands over in its k-th round. -/
def bk (zs : List I6) (k : Nat) : Nat × I6 := (zs.length - 1 - k, zs[zs.length - 1 - k]?.getD i0)
/-- What a round keeps: what lay below n₀; one box. -/
def KpB (n₀ Bs : Nat) (A B : World) : Prop := Below n₀ A B ∧ ∀ o, A.heap[Bs]? = some o → B.heap[Bs]? = some o
theorem KpB.refl (n₀ Bs : Nat) (A : World) : KpB n₀ Bs A A := ⟨Below.refl _ _, fun _ h => h⟩
theorem KpB.trans {n₀ Bs : Nat} {A B C : World} (h : KpB n₀ Bs A B) (k : KpB n₀ Bs B C) : KpB n₀ Bs A C := ⟨h.1.trans k.1, fun o ho => k.2 o (h.2 o ho)⟩
theorem KpB.put {n₀ Bs : Nat} {w : World} (hn : n₀ ≤ w.heap.size) (hB : Bs < w.heap.size) (W : World) (l : Nat) (o o' : Obj) (hl : w.heap.size ≤ l) (h : W.heap[l]? = some o) (h1 : o.isCells = false) (h2 : o.isWalk = false) : KpB n₀ Bs W (W.putObj l o') :=
  ⟨belowK_b hn W l o o' hl h h1 h2, fun o ho => (World.putObj_heap_other (by omega)).trans ho⟩
theorem KpB.alloc {n₀ Bs : Nat} {A B : World} (h : KpB n₀ Bs A B) (hn : n₀ ≤ B.heap.size) (o : Obj) : KpB n₀ Bs A (B.alloc o) :=
  ⟨h.1.alloc hn o, fun o' ho => (Below.heap_alloc B o Bs (Array.getElem?_eq_some_iff.1 (h.2 o' ho)).1).trans (h.2 o' ho)⟩
theorem KpB.grown {n₀ Bs : Nat} {A B C : World} {r : Nat} (h : KpB n₀ Bs A B) (hg : B.grownBy C (some r)) (hn : n₀ ≤ r) (hs : n₀ ≤ B.heap.size) (hr : r ≠ Bs) : KpB n₀ Bs A C :=
  ⟨h.1.grown hg hs (fun k e => by cases e; exact hn), fun o ho => (hg.block Bs (Array.getElem?_eq_some_iff.1 (h.2 o ho)).1 (fun e => hr (by injection e with e; exact e.symm))).trans (h.2 o ho)⟩
/-- Constants in a row: each one's number; its sort, 0. -/
def VarsAt (W : World) (b off : Nat) (zs : List I6) : Prop := ∀ j, j < zs.length → W.cell? ⟨b, off + j * 2, none⟩ = some (.int .i64 (zs[j]?.getD i0).1) ∧ W.cell? ⟨b, off + j * 2 + 1, none⟩ = some (.int .i64 0)
theorem VarsAt.below {n₀ : Nat} {A B : World} (h : Below n₀ A B) {b off : Nat} (hb : b < n₀) {zs : List I6} (hv : VarsAt A b off zs) : VarsAt B b off zs := fun j hj =>
  ⟨(h.cell (p := ⟨b, off + j * 2, none⟩) hb).trans (hv j hj).1, (h.cell (p := ⟨b, off + j * 2 + 1, none⟩) hb).trans (hv j hj).2⟩

section
open Go.Maps Go.ChangeMaps
variable {F : Fence} {nF : Nat} {P : Program}
/-- 'm[k] = v', at the operation, inside a fence. -/
theorem wpListIn_storeV {w : World} {ops : Array Oper} {rest : List Oper} {o : Oper} {a : Act} {Q : Exit → Act → World → Prop} (hg : o.guard = none) (m x v : Operand) (t : TypeId) (hop : o.op = Op.mapUpdate t m x v)
    (k e : TypeId) (K : Keyed P k) (ht : P.underlying t = some (.map k e)) (b n : Nat) (f : Lit → Option Value)
    (hm : a.eval m = .map (some b)) (hown : MapV w P k b n f) (hn : n < maxLen) (key val : Value) (kl : Lit) (hx : a.eval x = key) (hv : a.eval v = val) (hkey : keyOf P k key = some kl)
    (hK : ∀ w', MapV w' P k b (n + 1) (putK f kl (some val)) → w.grownBy w' (some b) → wpListIn F nF P ops Q rest (a.put o.dst undef) w') :
    wpListIn F nF P ops Q (o :: rest) a w := by
  obtain ⟨D, ho, hD⟩ := hown
  refine wpListIn_mapUpdate_own w hg m x v t hop k e K ht heldR b n D hm ho hn key val kl hx hv hkey (.held val) [] rfl (fun w' ho' hg' => hK w' ⟨_, ho', fun x => ?_⟩ hg')
  by_cases hx : x = kl
  · subst hx
    refine ⟨?_, fun z => ?_⟩
    · rw [has_put_same ho.isMap (K.key hkey), putK_same]; rfl
    · rw [atKey_put_same ho.isMap (K.key hkey), putK_same]; rfl
  · refine ⟨?_, fun z => ?_⟩
    · rw [has_put_other hx, putK_other _ _ hx]; exact (hD x).1
    · rw [atKey_put_other hx, putK_other _ _ hx]; exact (hD x).2 z
end
theorem MapV.kept {P : Program} {k : TypeId} {w w' : World} {b n : Nat} {f : Lit → Option Value} {row : Option Nat} (h : MapV w P k b n f) (hg : w.grownBy w' row) (hr : row ≠ some b) : MapV w' P k b n f :=
  h.upd (F := fun k => row = some k) (.grown hg (fun _ h => h)) hr
/-- What the map of sorts says when some have come. -/
def srtF (pre : List (Nat × I6)) : Int → Option Value := fun x => if pre.any (fun y => y.2.1 == x) then some (.int .i64 0) else none
theorem srtF_nil : onI (srtF []) = fun _ => none := by
  rw [← onI_none]; congr 1
theorem srtF_snoc (pre : List (Nat × I6)) (y : Nat × I6) : putK (onI (srtF pre)) (.int .i64 y.2.1) (some (.int .i64 0)) = onI (srtF (pre ++ [y])) := by
  rw [putK_onI]
  congr 1
  funext x
  simp only [srtF, List.any_append, List.any_cons, List.any_nil, Bool.or_false]
  by_cases h : x = y.2.1
  · subst h; simp
  · rw [if_neg h, show (y.2.1 == x) = false from by rw [beq_eq_false_iff_ne]; exact fun e => h e.symm, Bool.or_false]
end Go.Thd
namespace Go.Proofs.YtodeddappmfphaaGreatDoor
open Go.RowKit Go.Shelf Go.Thd
attribute [local go_sem] Oper.semAt_some

set_option maxRecDepth 100000 in
set_option maxHeartbeats 2000000 in
theorem back1_in (F : Fence) (n : Nat) (h7 : F.fn 143) (hro : F.round = none) (hn : 1 ≤ n) (l Bs n₀ b off cap : Nat) (zs : List I6) (hlen : zs.length ≤ 100000) (hb : b < n₀) (J Jx : List (Nat × I6) → World → Prop)
    (hY : ∀ pre x W, J pre W → pre.length < zs.length → YieldAt F (n - 1) Tryz.prog l #[.int .i64 (x.1 : Int), .agg #[.int .i64 x.2.1, .int .i64 0]] W fun e W' =>
      (e = .returned (.bool true) ∧ J (pre ++ [x]) W' ∧ KpB n₀ Bs W W') ∨ (e = .returned (.bool false) ∧ Jx (pre ++ [x]) W'))
    (W : World) (hBs : W.heap[Bs]? = some (.cells #[.slice (some ⟨b, off, none⟩) zs.length cap] 22 (0, 0))) (hc : VarsAt W b off zs) (h0 : J [] W) :
    CallsIn F n Tryz.prog 143 #[.func (.yield l) #[] #[], .pointer (some ⟨Bs, 0, none⟩)] W fun e W' => (∃ v, e = .returned v) ∧
      ((∃ ys, ys = upto (bk zs) zs.length ∧ J ys W') ∨ (∃ pre, (∃ k, k ≤ zs.length ∧ pre = upto (bk zs) k) ∧ Jx pre W')) := by
  refine callsIn_of_wp Tryz.func143 rfl h7 ?_ hro
  simp only [Tryz.ntmps143, List.size_toArray, List.length_cons, List.length_nil, Nat.reduceAdd, Nat.reduceSub, Array.replicate_succ, Array.replicate_zero, List.push_toArray, List.append_toArray, List.nil_append, List.cons_append]
  have hBs0 : W.cell? ⟨Bs, 0, none⟩ = some (.slice (some ⟨b, off, none⟩) zs.length cap) := Boxed.cell hBs
  gi_wp2
  clear hBs0
  gi_loopw [3] (fun i wr => ∃ m : Nat, m ≤ zs.length ∧ i = .int .i64 ((m : Int) - 1) ∧ J (upto (bk zs) (zs.length - m)) wr ∧ KpB n₀ Bs W wr)
    (fun i _ => (intOf i + 1).toNat)
  case atStart => exact ⟨zs.length, Nat.le_refl _, rfl, by rw [Nat.sub_self]; exact h0, KpB.refl _ _ _⟩
  case round =>
    obtain ⟨m, hm, rfl, hJs, hnx⟩ := hrel
    by_cases h0 : m = 0
    · subst h0
      clear hBs hc
      gi_wp2
      go_end0
      exact ⟨⟨_, rfl⟩, .inl ⟨_, rfl, hJs⟩⟩
    · obtain ⟨j, rfl⟩ : ∃ j, m = j + 1 := ⟨m - 1, by omega⟩
      obtain ⟨hc1, hc2⟩ := hc.below hnx.1 hb j (by omega)
      have hBs' : wr.cell? ⟨Bs, 0, none⟩ = some (.slice (some ⟨b, off, none⟩) zs.length cap) := Boxed.cell (hnx.2 _ hBs)
      have hjj : ((j + 1 : Nat) : Int) - 1 = (j : Int) := by omega
      rw [hjj]
      clear hjj hBs hc
      have hbk : bk zs (zs.length - (j + 1)) = (j, zs[j]?.getD i0) := by
        unfold bk
        rw [show zs.length - 1 - (zs.length - (j + 1)) = j from by omega]
      obtain ⟨fn, tmps, assign, body, hy, hR⟩ := hY _ (bk zs (zs.length - (j + 1))) wr hJs (by rw [upto_length]; omega)
      have HUP := Lib.hid (show upto (bk zs) (zs.length - (j + 1)) ++ [bk zs (zs.length - (j + 1))] = upto (bk zs) (zs.length - j) from by rw [← upto_succ]; congr 1; omega)
      have HBK := Lib.hid hbk
      rw [hbk] at hy
      dsimp only at hy
      clear hbk
      gi_wp2
      refine hR.mono ?_
      rintro e W3 (⟨rfl, hJ3, hk3⟩ | ⟨rfl, hJx3⟩)
      · gi_wp2
        go_roundw
        case rel => exact ⟨j, by omega, rfl, by rw [← HUP.out]; exact hJ3, hnx.trans hk3⟩
        case measure => simp [intOf]
      · gi_wp2
        refine bodyPost_ret (results_none rfl _ _ _) rfl ?_
        exact ⟨⟨_, rfl⟩, .inr ⟨_, ⟨zs.length - j, by omega, HUP.out⟩, hJx3⟩⟩

theorem back_in (F : Fence) (n : Nat) (h6 : F.fn 95) (hro : F.round = none) (a : Option Addr) (len cap : Nat) (w : World) :
    CallsIn F n Tryz.prog 95 #[.slice a len cap] w fun e w' => e = .returned (.func (.func 143) #[] #[.pointer (some ⟨w.heap.size, 0, none⟩)]) ∧ w' = w.alloc (.cells #[.slice a len cap] 22) := by
  refine callsIn_of_wp Tryz.func95 rfl h6 ?_ hro
  simp only [Tryz.ntmps95, List.size_toArray, List.length_cons, List.length_nil, Nat.reduceAdd, Nat.reduceSub, Array.replicate_succ, Array.replicate_zero, List.push_toArray, List.append_toArray, List.nil_append, List.cons_append]
  gi_wp2
  go_ret
  exact ⟨rfl, rfl⟩

theorem back_stops (F : Fence) (n : Nat) (h8 : F.fn 143) (hro : F.round = none) (hn : 1 ≤ n) (Bs n₀ b off cap : Nat) (zs : List I6) (hlen : zs.length ≤ 100000) (w : World) (hBs : Bs < w.heap.size) (hn₀ : n₀ ≤ w.heap.size) (hb : b < n₀)
    (hc : w.heap[Bs]? = some (.cells #[.slice (some ⟨b, off, none⟩) zs.length cap] 22 (0, 0))) (hI : VarsAt w b off zs) :
    SeqStopsK F n Tryz.prog 143 #[.pointer (some ⟨Bs, 0, none⟩)] (fun x : Nat × I6 => #[Value.int .i64 (x.1 : Int), .agg #[.int .i64 x.2.1, .int .i64 0]]) (KpB n₀ Bs) (fun ys => ys = upto (bk zs) zs.length)
      (fun pre => ∃ k, k ≤ zs.length ∧ pre = upto (bk zs) k) zs.length w := fun l J Jx W hW _ _ hY h0 =>
  back1_in F n h8 hro hn l Bs n₀ b off cap zs hlen hb J Jx hY W ((hW.block Bs hBs).trans hc) (hI.below (hW.mono hn₀) hb) h0

set_option maxRecDepth 100000 in
set_option maxHeartbeats 4000000 in
theorem sorts_in (F : Fence) (n : Nat) (h3 : F.fn 42) (h4 : F.fn 95) (h5 : F.fn 143) (hro : F.round = none) (hn : 3 ≤ n) (b off cap : Nat) (zs : List I6) (hlen : zs.length ≤ 100000) (w : World) (hb : b < w.heap.size) (hI : VarsAt w b off zs) :
    CallsIn F n Tryz.prog 42 #[.slice (some ⟨b, off, none⟩) zs.length cap] w fun e W' => e = .returned (.map (some w.heap.size)) ∧ MapV W' Tryz.prog 3 w.heap.size zs.length (onI (srtF (upto (bk zs) zs.length))) ∧ Below w.heap.size w W' := by
  have h1 : 1 ≤ n := by omega
  have hmm := @run_makeMap Tryz.prog
  refine callsIn_of_wp_marks Tryz.func42 rfl h3 ?_ hro
  simp only [Tryz.ntmps42, List.size_toArray, List.length_cons, List.length_nil, Nat.reduceAdd, Nat.reduceSub, Array.replicate_succ, Array.replicate_zero, List.push_toArray, List.append_toArray, List.nil_append, List.cons_append]
  gi_wp2_with (gi_at_call 95; refine (back_in F (n - 1) h4 hro _ _ _ _).mono ?_; rintro e w' ⟨rfl, rfl⟩)
  have hm0 := ((MapV.made w Tryz.prog 3).alloc (.cells #[.map (some w.heap.size)] 97)).alloc (.cells #[.slice (some ⟨b, off, none⟩) zs.length cap] 22)
  have bS := (Boxed.new (w.alloc (.map #[] 0)) 97 (.map (some w.heap.size))).alloc (.cells #[.slice (some ⟨b, off, none⟩) zs.length cap] 22)
  have bN := Boxed.new ((w.alloc (.map #[] 0)).alloc (.cells #[.map (some w.heap.size)] 97)) 22 (.slice (some ⟨b, off, none⟩) zs.length cap)
  simp only [World.size_alloc] at bS bN
  have hB0 : Below w.heap.size w (((w.alloc (.map #[] 0)).alloc (.cells #[.map (some w.heap.size)] 97)).alloc (.cells #[.slice (some ⟨b, off, none⟩) zs.length cap] 22)) := (((Below.refl _ w).alloc (Nat.le_refl _) _).alloc (by simp) _).alloc (by simp; omega) _
  have hsz : (((w.alloc (.map #[] 0)).alloc (.cells #[.map (some w.heap.size)] 97)).alloc (.cells #[.slice (some ⟨b, off, none⟩) zs.length cap] 22)).heap.size = w.heap.size + 3 := by simp
  obtain ⟨W0, hW0⟩ : ∃ W0, (((w.alloc (.map #[] 0)).alloc (.cells #[.map (some w.heap.size)] 97)).alloc (.cells #[.slice (some ⟨b, off, none⟩) zs.length cap] 22)) = W0 := ⟨_, rfl⟩
  rw [hW0] at hm0 bS bN hB0 hsz ⊢
  clear hW0
  refine wpIn_rangeFunc_ownH hro h1 (gf := 143) (lb := #[.pointer (some ⟨w.heap.size + 1 + 1, 0, none⟩)]) rfl h5 (enters_of Tryz.func143 (by kernel_rfl) rfl)
    (back_stops F (n - 1) h5 hro (by omega) (w.heap.size + 1 + 1) w.heap.size b off cap zs hlen W0 (by omega) (by omega) hb bN (hI.below hB0 hb)) KpB.trans (KpB.put (by omega) (by omega)) (Below.refl _ _) (fun _ => rfl)
    (fun pre W => ((Boxed W (w.heap.size + 1) 97 (.map (some w.heap.size)) ∧ Boxed W (w.heap.size + 1 + 1) 22 (.slice (some ⟨b, off, none⟩) zs.length cap)) ∧ MapV W Tryz.prog 3 w.heap.size pre.length (onI (srtF pre))) ∧ Below w.heap.size w W)
    (fun _ _ _ => False)
    (OwnFrom.and (OwnFrom.and (OwnFrom.and (Own.from (boxed_own _ _ _) _) (Own.from (boxed_own _ _ _) _)) (fun s A B row hs hg hr => hs.kept hg (fun e => by have := (hr _ e).1; omega))) (ownFrom_below (Nat.le_refl _) (by omega)))
    (fun _ _ _ _ _ hs _ _ => hs)
    ⟨⟨⟨bS, bN⟩, by rw [srtF_nil]; exact hm0⟩, hB0⟩
    (fun x a' W => ∃ Bx, w.heap.size + 2 < Bx ∧ W.heap[Bx]? = some (.cells #[.int .i64 x.2.1, .int .i64 0] 58 (0, 0)) ∧ a' = { tmps := #[.slice (some ⟨b, off, none⟩) zs.length cap, undef, .map none, .pointer (some ⟨w.heap.size + 1, 0, none⟩), undef, .pointer (some ⟨Bx, 0, none⟩), .map (some w.heap.size), .slice (some ⟨b, off, none⟩) zs.length cap, .func (.func 143) #[] #[.pointer (some ⟨w.heap.size + 1 + 1, 0, none⟩)], .int .i64 (x.1 : Int), .agg #[.int .i64 x.2.1, .int .i64 0], undef, undef, undef, undef, undef, undef], defers := [] })
    (fun x a' _ X Y row hs hg hr => by
      obtain ⟨Bx, h1, h2, h3⟩ := hs
      refine ⟨Bx, h1, (hg.block Bx (Array.getElem?_eq_some_iff.1 h2).1 (fun e => ?_)).trans h2, h3⟩
      obtain ⟨o, ho, hc⟩ := (hr Bx e.symm).2
      rw [h2] at ho; cases ho; cases hc)
    ?assign ?body ?done ?stop
  case assign =>
    rintro l pre x W K ⟨⟨⟨bS1, bN1⟩, hM1⟩, hB1⟩ hK
    gi_wp2
    exact hK _ _ ((KeepsOthers.alloc _ _).from _) ((KpB.refl _ _ _).alloc hB1.size _) ⟨⟨⟨bS1.alloc _, bN1.alloc _⟩, hM1.alloc _⟩, hB1.alloc hB1.size _⟩ ⟨W.heap.size, bN1.lt, World.alloc_heap_new W _, rfl⟩
  case body =>
    rintro l pre x a' W hl ⟨r, hr⟩ ⟨⟨⟨bS1, bN1⟩, hM1⟩, hB1⟩ ⟨Bx, hBx, bX, rfl⟩ hlt
    have cS := bS1.cell
    have cX0 : W.cell? ⟨Bx, 0, none⟩ = some (.int .i64 x.2.1) := by simp [World.cell?, bX]
    have cX1 : W.cell? ⟨Bx, 1, none⟩ = some (.int .i64 0) := by simp [World.cell?, bX]
    have HM := Lib.hid hM1
    have HB := Lib.hid hB1
    clear hM1 hB1
    gi_wp2_with (gi_at_mapUpdate; refine wpListIn_storeV rfl _ _ _ 97 rfl 3 3 (Maps.int_keyed Tryz.underlying3) Tryz.underlying97 w.heap.size pre.length _ rfl HM.out (by unfold maxLen; omega) _ (.int .i64 0) _ rfl rfl (key_int Tryz.underlying3 x.2.2) ?_; intro w1 hM2 hg)
    have hs1 := HB.out.size
    refine ⟨KeepsFrom.of_grownBy hg (fun j e => by cases e; omega), (KpB.refl _ _ _).grown hg (Nat.le_refl _) hs1 (by omega), ⟨⟨bS1.kept hg (fun e => by injection e with e; omega), bN1.kept hg (fun e => by injection e with e; omega)⟩, ?_⟩, HB.out.grown hg hs1 (fun k e => by cases e; exact Nat.le_refl _)⟩
    rw [srtF_snoc] at hM2
    rw [List.length_append]
    exact hM2
  case done =>
    rintro D ys W hD rfl ⟨⟨⟨bS1, bN1⟩, hM1⟩, hB1⟩ hK
    have cS := bS1.cell
    gi_wp2
    refine ⟨by simp, .inl ⟨_, _, rfl, run_takeDeferred hK, ?_⟩⟩
    rw [upto_length] at hM1
    exact ⟨_, results_tmp rfl _ _ _, rfl, hM1.kept (grownBy_putObj' _ D _) (fun e => by injection e with e; omega), hB1.trans (belowK_b (w := w) (Nat.le_refl _) W D _ _ (by omega) hK rfl rfl)⟩
  case stop =>
    rintro D c pre W _ _ h _
    exact h.elim

theorem sorts_any (b off cap : Nat) (zs : List I6) (hlen : zs.length ≤ 100000) (w : World) (hb : b < w.heap.size) (hI : VarsAt w b off zs) :
    Calls Tryz.prog 42 #[.slice (some ⟨b, off, none⟩) zs.length cap] w (Ret w fun v W' => v = .map (some w.heap.size) ∧ MapV W' Tryz.prog 3 w.heap.size zs.length (onI (srtF (upto (bk zs) zs.length)))) :=
  ((callsIn_wide (n := 3)).1 (sorts_in Fence.wide 3 trivial trivial trivial rfl (Nat.le_refl _) b off cap zs hlen w hb hI)).mono fun e W' ⟨he, hM, hB⟩ => ⟨_, he, hB, rfl, hM⟩
end Go.Proofs.YtodeddappmfphaaGreatDoor
