/- Shared words for the walks: what a slice's cells are, what stays when the heap grows. -/
import Derived.WalkKit
import Derived.WalkSpells
import Derived.WalkLawsBesides
import Derived.Lib.Hide
import Derived.Deep.QuietTactic
import Derived.BigQuiet
import Derived.Deep.RegionHeld3
import Derived.Test.YtodeddappmfphaaGreatDoorLim
namespace Go.Thd
open Go.RowKit

/-- The answer of a call that only makes new memory. -/
def Ret (w : World) (R : Value → World → Prop) (e : Ending) (w' : World) : Prop := ∃ v, e = .returned v ∧ Below w.heap.size w w' ∧ R v w'

/-- The answer of a call that leaves the world as it is. -/
def RetS (w : World) (R : Value → Prop) (e : Ending) (w' : World) : Prop := ∃ v, e = .returned v ∧ w = w' ∧ R v

/-- A slice of 64-bit limbs that holds a number, without limbs 0 at the end: its address and capacity. -/
def Num (w : World) (a : Option Addr) (c : Nat) (x : Nat) : Prop :=
  nl x ≤ c ∧ (x = 0 ∨ ∃ b off, a = some ⟨b, off, none⟩ ∧ b < w.heap.size ∧ ∀ i, i < nl x → w.cell? ⟨b, off + i, none⟩ = some (.int .u64 (dig x i)))

theorem Num.mono {w w' : World} {a : Option Addr} {c x : Nat} (h : Num w a c x) (hb : Below w.heap.size w w') : Num w' a c x := by
  refine ⟨h.1, ?_⟩
  rcases h.2 with h | ⟨b, off, ha, hlt, hc⟩
  · exact .inl h
  · exact .inr ⟨b, off, ha, Nat.lt_of_lt_of_le hlt hb.size, fun i hi => (hb.cell (p := ⟨b, off + i, none⟩) hlt).trans (hc i hi)⟩
theorem Num.zero (w : World) (a : Option Addr) (c : Nat) : Num w a c 0 := ⟨by rw [nl_zero]; omega, .inl rfl⟩

/-- What is at an address was made since a world. -/
def Fresh (w : World) (a : Option Addr) : Prop := ∀ p, a = some p → w.heap.size ≤ p.block
theorem Fresh.none (w : World) : Fresh w Option.none := fun _ h => by cases h
theorem Fresh.of {w w' : World} {a : Option Addr} (h : Fresh w' a) (hs : w.heap.size ≤ w'.heap.size) : Fresh w a := fun p hp => Nat.le_trans hs (h p hp)
/-- A store elsewhere leaves a number as it is. -/
theorem Num.set {w : World} {a : Option Addr} {c x : Nat} (h : Num w a c x) {R : Nat} (hR : x = 0 ∨ ∀ p, a = some p → p.block ≠ R) (o : Nat) (v : Value) : Num (w.setCell ⟨R, o, Option.none⟩ v) a c x := by
  refine ⟨h.1, ?_⟩
  rcases h.2 with h | ⟨b, off, ha, hlt, hc⟩
  · exact .inl h
  · rcases hR with h0 | hR
    · exact .inl h0
    have hne : b ≠ R := hR _ ha
    exact .inr ⟨b, off, ha, by simpa [World.setCell] using hlt, fun i hi => (World.cell?_of_block (w := w) (a := ⟨b, off + i, Option.none⟩) (Below.heap_setCell _ _ _ _ hne)).trans (hc i hi)⟩
theorem Num.setF {w w0 : World} {a : Option Addr} {c x : Nat} (h : Num w a c x) (hF : Fresh w0 a) {R : Nat} (hR : R < w0.heap.size) (o : Nat) (v : Value) : Num (w.setCell ⟨R, o, Option.none⟩ v) a c x :=
  h.set (.inr fun p hp => by have := hF p hp; omega) o v

/-- Limbs that need not be a number: a slice of n of them. -/
def U64s (w : World) (a : Option Addr) (n : Nat) (f : Nat → Nat) : Prop :=
  n = 0 ∨ ∃ b off, a = some ⟨b, off, none⟩ ∧ b < w.heap.size ∧ ∀ i, i < n → w.cell? ⟨b, off + i, none⟩ = some (.int .u64 (f i))
theorem U64s.mono {w w' : World} {a : Option Addr} {n : Nat} {f : Nat → Nat} (h : U64s w a n f) (hb : Below w.heap.size w w') : U64s w' a n f := by
  rcases h with h | ⟨b, off, ha, hlt, hc⟩
  · exact .inl h
  · exact .inr ⟨b, off, ha, Nat.lt_of_lt_of_le hlt hb.size, fun i hi => (hb.cell (p := ⟨b, off + i, none⟩) hlt).trans (hc i hi)⟩
theorem Num.u64s {w : World} {a : Option Addr} {c x : Nat} (h : Num w a c x) : U64s w a (nl x) (dig x) := by
  rcases h.2 with h | h
  · exact .inl (by rw [h, nl_zero])
  · exact .inr h

/-- The cells from an address on. -/
def Seg (w : World) (a : Option Addr) (vs : List Value) : Prop :=
  vs = [] ∨ ∃ b off, a = some ⟨b, off, none⟩ ∧ b < w.heap.size ∧ ∀ i v, vs[i]? = some v → w.cell? ⟨b, off + i, none⟩ = some v

theorem Seg.mono {w w' : World} {a : Option Addr} {vs : List Value} (h : Seg w a vs) (hb : Below w.heap.size w w') : Seg w' a vs := by
  rcases h with h | ⟨b, off, ha, hlt, hc⟩
  · exact .inl h
  · exact .inr ⟨b, off, ha, Nat.lt_of_lt_of_le hlt hb.size, fun i v hv => (hb.cell (p := ⟨b, off + i, none⟩) hlt).trans (hc i v hv)⟩

theorem bcell {W w1 : World} (hb : Below W.heap.size W w1) : (∀ b o, b < W.heap.size → w1.cell? ⟨b, o, none⟩ = W.cell? ⟨b, o, none⟩) ∧ (∀ b o, b < W.heap.size → w1.frozen? ⟨b, o, none⟩ = W.frozen? ⟨b, o, none⟩) :=
  ⟨fun b o h => hb.cell (p := ⟨b, o, none⟩) h, fun b o h => hb.frozen (p := ⟨b, o, none⟩) h⟩

/-- A row of cells of the call's own. -/
def Own (w : World) (b : Nat) (n : Nat) (g : Nat → Value) : Prop :=
  b < w.heap.size ∧ (∀ i, i < n → w.cell? ⟨b, i, none⟩ = some (g i)) ∧ ∀ i, w.frozen? ⟨b, i, none⟩ = false

theorem Own.same {w w' : World} {b n : Nat} {g : Nat → Value} (h : Own w b n g) (hh : w'.heap[b]? = w.heap[b]?) (hs : w.heap.size ≤ w'.heap.size) : Own w' b n g :=
  ⟨Nat.lt_of_lt_of_le h.1 hs, fun i hi => (World.cell?_of_block (w := w) (a := ⟨b, i, none⟩) hh).trans (h.2.1 i hi), fun i => (World.frozen?_of_block (w := w) (a := ⟨b, i, none⟩) hh).trans (h.2.2 i)⟩

theorem Own.mono {w w' : World} {b n : Nat} {g : Nat → Value} (h : Own w b n g) (hb : Below w.heap.size w w') : Own w' b n g :=
  h.same (hb.block b h.1) hb.size

theorem Own.drewN {w : World} {b n : Nat} {g : Nat → Value} (h : Own w b n g) (k : Nat) : Own (w.drewN k) b n g := h

theorem Own.alloc {w : World} {b n : Nat} {g : Nat → Value} (h : Own w b n g) (o : Obj) : Own (w.alloc o) b n g :=
  h.mono ((Below.refl _ _).alloc (Nat.le_refl _) _)

theorem Own.set {w : World} {b n : Nat} {g : Nat → Value} (h : Own w b n g) (j : Nat) (hj : j < n) (v : Value) :
    Own (w.setCell ⟨b, j, none⟩ v) b n (fun i => if i = j then v else g i) := by
  refine ⟨by simpa [World.setCell] using h.1, fun i hi => ?_, fun i => (World.frozen?_setCell _ _ _ _).trans (h.2.2 i)⟩
  by_cases hij : i = j
  · subst hij
    show _ = some (if i = i then v else g i)
    rw [if_pos rfl]
    exact World.cell?_setCell_same _ _ _ (h.2.1 i hi)
  · show _ = some (if i = j then v else g i)
    rw [if_neg hij, ← h.2.1 i hi]
    exact World.cell?_setCell_other _ _ _ _ (by simp; try exact hij)

theorem Own.setU {w : World} {b n : Nat} {f : Nat → Nat} (h : Own w b n (fun i => .int .u64 (f i : Nat))) (j : Nat) (hj : j < n) (s : Nat) :
    Own (w.setCell ⟨b, j, none⟩ (.int .u64 (s : Nat))) b n (fun i => .int .u64 (upd f j s i : Nat)) := by
  have := h.set j hj (.int .u64 (s : Nat))
  have e : (fun i => if i = j then Value.int .u64 (s : Nat) else .int .u64 (f i : Nat)) = fun i => Value.int .u64 (upd f j s i : Nat) := by
    funext i; simp only [upd]; split <;> rfl
  rwa [e] at this

/-- A new row, all of one value. -/
theorem Own.made (w : World) (z : Value) (n : Nat) (e : TypeId) : Own (w.alloc (.cells (madeCells #[z] n) e)) w.heap.size n (fun _ => z) := by
  have hh := heap_alloc_new w (.cells (madeCells #[z] n) e)
  refine ⟨by simp, fun i hi => ?_, fun i => ?_⟩
  · simp only [World.cell?, hh]
    simp [madeCells, hi, Nat.mod_one]
  · simp only [World.frozen?, hh]
    simp

theorem Own.lit (w : World) (cs : Array Value) (n : Nat) (g : Nat → Value) (e : TypeId) (h : ∀ i, i < n → cs[i]? = some (g i)) : Own (w.alloc (.cells cs e)) w.heap.size n g := by
  have hh := heap_alloc_new w (.cells cs e)
  refine ⟨by simp, fun i hi => ?_, fun i => ?_⟩
  · simp only [World.cell?, hh]
    simpa using h i hi
  · simp only [World.frozen?, hh]
    simp

theorem ownsRow_cells {w : World} {base : Nat} {e : TypeId} {v : Value} {n : Nat} {vals : Nat → Value} (h : w.ownsRow base e 1 v n ((List.range n).map vals)) :
    ∃ a c, v = .slice a n c ∧ n ≤ c ∧ (v = .slice none 0 0 ∧ n = 0 ∨ ∃ b, a = some ⟨b, 0, none⟩ ∧ base ≤ b ∧ b < w.heap.size ∧ (∀ i, i < n → w.cell? ⟨b, i, none⟩ = some (vals i)) ∧ ∀ i, w.frozen? ⟨b, i, none⟩ = false) := by
  rcases h.2 with ⟨rfl, rfl⟩ | ⟨g, cap, cur, rfl, hb, hg, hn, _, _, ht⟩
  · exact ⟨none, 0, rfl, Nat.le_refl _, .inl ⟨rfl, rfl⟩⟩
  · refine ⟨_, _, rfl, hn, .inr ⟨g, rfl, hb, (Array.getElem?_eq_some_iff.1 hg).1, fun i hi => ?_, fun i => ?_⟩⟩
    · have h1 : (cur.toList.take (n * 1))[i]? = some (vals i) := by rw [ht]; simp [hi]
      rw [List.getElem?_take, if_pos (by omega)] at h1
      simp only [World.cell?, hg]
      simpa using h1
    · simp only [World.frozen?, hg]
      simp

/-- The number that a slice holds: for a loop's measure. -/
def readN (w : World) : Value → Nat
  | .slice (some p) n _ => val (fun i => match w.cell? ⟨p.block, p.off + i, none⟩ with | some (.int _ z) => z.toNat | _ => 0) n
  | _ => 0
theorem readN_num {w : World} {a : Option Addr} {c x : Nat} (h : Num w a c x) : readN w (.slice a (nl x) c) = x := by
  rcases h.2 with rfl | ⟨b, off, rfl, hb, hc⟩
  · rw [nl_zero]; cases a <;> rfl
  · show val _ (nl x) = x
    rw [val_congr (g := dig x) fun i hi => by simp [hc i hi], val_dig_nl]

/-- An append whose run is known. -/
theorem wpList_append_by {P : Program} {ops : Array Oper} {rest : List Oper} {o : Oper} {a : Act} {w : World} {Q : Exit → Act → World → Prop} (hgd : o.guard = none) (s x : Operand) (t : TypeId)
    (ho : o.op = .call { callee := .builtin .append, args := #[s, x], argTypes := #[t, t] }) (sv xv v' : Value) (w' : World) (hs : a.eval s = sv) (hx : a.eval x = xv)
    (hrun : (Builtin.append_ #[t, t] o.type #[sv, xv]).run P w = .ok v' w') (h : wpList P ops Q rest (a.put o.dst v') w') : wpList P ops Q (o :: rest) a w := by
  refine wpList_plain hgd fun K hK => ?_
  unfold Oper.wp execOp
  simp only [ho, resolve, invoke, builtin, Sem.run_bind, Sem.run_pure, Result.andThen_ok, List.map_toArray, List.map_cons, List.map_nil, hs, hx, hrun]
  exact hK _ _ h

/-- Below a world's end all is as it was, but for one block (that of a result). -/
structure BelowB (R : Nat) (W w : World) : Prop where
  os : w.os = W.os
  tape : w.tape = W.tape
  output : w.output = W.output
  size : W.heap.size ≤ w.heap.size
  block : ∀ k, k < W.heap.size → k ≠ R → w.heap[k]? = W.heap[k]?
theorem BelowB.of {R : Nat} {W w : World} (h : Below W.heap.size W w) : BelowB R W w := ⟨h.os, h.tape, h.output, h.size, fun k hk _ => h.block k hk⟩
theorem BelowB.trans {R : Nat} {W w w' : World} (h : BelowB R W w) (hb : Below w.heap.size w w') : BelowB R W w' :=
  ⟨hb.os.trans h.os, hb.tape.trans h.tape, hb.output.trans h.output, Nat.le_trans h.size hb.size, fun k hk hr => (hb.block k (Nat.lt_of_lt_of_le hk h.size)).trans (h.block k hk hr)⟩
theorem BelowB.set {R : Nat} {W w : World} (h : BelowB R W w) (o : Nat) (v : Value) : BelowB R W (w.setCell ⟨R, o, none⟩ v) :=
  ⟨h.os, h.tape, h.output, by simpa [World.setCell] using h.size, fun k hk hr => by rw [Below.heap_setCell _ _ _ _ (by simpa using hr)]; exact h.block k hk hr⟩
theorem BelowB.cell {R : Nat} {W w : World} (h : BelowB R W w) : (∀ b o, b < W.heap.size → b ≠ R → w.cell? ⟨b, o, none⟩ = W.cell? ⟨b, o, none⟩) ∧ (∀ b o, b < W.heap.size → b ≠ R → w.frozen? ⟨b, o, none⟩ = W.frozen? ⟨b, o, none⟩) :=
  ⟨fun b o hb hr => World.cell?_of_block (w := W) (a := ⟨b, o, none⟩) (h.block b hb hr), fun b o hb hr => World.frozen?_of_block (w := W) (a := ⟨b, o, none⟩) (h.block b hb hr)⟩
/-- No block is left out. -/
theorem BelowB.all {R : Nat} {W w : World} (h : BelowB R W w) (hR : W.heap.size ≤ R) : Below W.heap.size W w := ⟨h.os, h.tape, h.output, h.size, fun k hk => h.block k hk (by omega)⟩

section regions
variable {P : Program} {ops : Array Oper} {Q : Exit → Act → World → Prop} {md : Region.Mode} {S : World → Prop}
/-- A region that draws begins: n operations, none of them done. -/
theorem region_start (S : World → Prop) (n : Nat) (L : Array Bool) {id : Nat} {a : Act} {w : World} (hm : P.follows .mixedOrders = true) (hn : ops.size = n) (hL : Array.replicate n false = L) (hS : S w.drew)
    (h : S w.drew → wpAnyH P .any ops Q S n L a w.drew) : (Code.region id ops true).wp P Q a w := by
  refine wp_region_held_drew hm hS fun h1 => ?_
  rw [hn, hL]
  exact h h1
/-- One operation of a region that draws, taken first: it yields the same value in every world that meets S. -/
theorem take_run (i fuel : Nat) (d : Option Tmp) (L' : Array Bool) {oi : Oper} {v : Value} {L : Array Bool} {a : Act} {w : World} (hi : ops[i]? = some oi) (hd : oi.dst = d) (hL : L.setIfInBounds i true = L')
    (hs : Region.noSelect ops = true) (hf : Region.free md ops L i = true) (hr : (Region.ready md ops L).contains i = true)
    (hQ : ∀ c a w, Q (.panic c) (a.put d v) w → Q (.panic c) a w) (hw : Region.wanted oi (yielded ops a.tmps) = true) (hS : S w) (hy : ∀ w, S w → (execOp a.eval oi).run P w = .ok (.value v) w)
    (h : wpAnyH P md ops Q S fuel L' (a.put d v) w) : wpAnyH P md ops Q S (fuel + 1) L a w := by
  subst hL; subst hd
  exact wpAnyH_take hi hs hf hr hQ (.inl ⟨hw, hy⟩) hS h
/-- One operation whose guard says no, passed over. -/
theorem take_skip (i fuel : Nat) (d : Option Tmp) (L' : Array Bool) {oi : Oper} {L : Array Bool} {a : Act} {w : World} (hi : ops[i]? = some oi) (hd : oi.dst = d) (hL : L.setIfInBounds i true = L')
    (hs : Region.noSelect ops = true) (hf : Region.free md ops L i = true) (hr : (Region.ready md ops L).contains i = true)
    (hQ : ∀ c a w, Q (.panic c) (a.put d undef) w → Q (.panic c) a w) (hw : Region.wanted oi (yielded ops a.tmps) = false) (hS : S w)
    (h : wpAnyH P md ops Q S fuel L' (a.put d undef) w) : wpAnyH P md ops Q S (fuel + 1) L a w := by
  subst hL; subst hd
  exact wpAnyH_take hi hs hf hr hQ (.inr ⟨hw, rfl⟩) hS h
/-- The one operation that may come up next. -/
theorem step_only (i fuel : Nat) (L' : Array Bool) {oi : Oper} {L : Array Bool} {a : Act} {w : World} (hi : ops[i]? = some oi) (hL : L.setIfInBounds i true = L') (hr : Region.ready md ops L = [i])
    (hw : Region.wanted oi (yielded ops a.tmps) = true)
    (h : ∀ K' : Act → World → Prop, (∀ a w, S w → wpAnyH P md ops Q S fuel L' a w → K' a w) → Oper.wp P oi a w K' Q) : wpAnyH P md ops Q S (fuel + 1) L a w := by
  subst hL
  exact wpAnyH_all hr (by simp) fun j hj => by
    simp at hj; subst hj
    exact wpOp_step hi (fun K' hK => by rw [if_pos hw]; exact h K' (fun a w hS hW => hK a w ⟨hS, hW⟩))
theorem run_call {o : Oper} {a : Act} {w : World} (f : FuncId) (vs : List Value) {fn : Func} {c : Code} {args : List Operand} {ats : Array TypeId}
    (hop : o.op = .call { callee := .value (.func f), args := args.toArray, argTypes := ats }) (hargs : args.map a.eval = vs) (hf : P.funcs[f]? = some fn) (hb : fn.body = some c) (hn : (fn.name == "runtime.NumGoroutine") = false) :
    (execOp a.eval o).run P w = .ok (.enter f vs.toArray) w := by
  have h1 : execOp a.eval o = callFunc f (#[] ++ args.toArray.map a.eval ++ #[]) := by
    unfold execOp; rw [hop]; rfl
  have hn' : fn.name ≠ "runtime.NumGoroutine" := by simpa using hn
  rw [h1, List.map_toArray, hargs]
  simp [callFunc, hf, hb, hn']
/-- A call, by its contract, where it alone may come up. -/
theorem step_call (i fuel : Nat) (d : Option Tmp) (L' : Array Bool) (f : FuncId) (vs : List Value) {oi : Oper} {L : Array Bool} {a : Act} {w : World} {fn : Func} {c : Code} {args : List Operand} {ats : Array TypeId} {R : Value → World → Prop}
    (hi : ops[i]? = some oi) (hd : oi.dst = d) (hL : L.setIfInBounds i true = L') (hr : Region.ready md ops L = [i])
    (hw : Region.wanted oi (yielded ops a.tmps) = true) (hop : oi.op = .call { callee := .value (.func f), args := args.toArray, argTypes := ats }) (hargs : args.map a.eval = vs)
    (hf : P.funcs[f]? = some fn) (hb : fn.body = some c) (hn : (fn.name == "runtime.NumGoroutine") = false) (hC : Calls P f vs.toArray w (Ret w R))
    (h : ∀ v w', Below w.heap.size w w' → R v w' → S w' ∧ wpAnyH P md ops Q S fuel L' (a.put d v) w') : wpAnyH P md ops Q S (fuel + 1) L a w := by
  subst hd
  refine step_only i fuel L' hi hL hr hw fun K hK => ?_
  show oi.upon P a K Q ((execOp a.eval oi).run P w)
  rw [run_call f vs hop hargs hf hb hn, Oper.upon_enter]
  refine hC.mono ?_
  rintro e w' ⟨v, rfl, hB, hR⟩
  exact hK _ _ (h v w' hB hR).1 (h v w' hB hR).2
/-- A call, by its contract, in the walk's own order. -/
theorem wp_call {o : Oper} {a : Act} {w : World} {K : Act → World → Prop} (f : FuncId) (vs : List Value) {fn : Func} {c : Code} {args : List Operand} {ats : Array TypeId} {R : Value → World → Prop}
    (hop : o.op = .call { callee := .value (.func f), args := args.toArray, argTypes := ats }) (hargs : args.map a.eval = vs)
    (hf : P.funcs[f]? = some fn) (hb : fn.body = some c) (hn : (fn.name == "runtime.NumGoroutine") = false) (hC : Calls P f vs.toArray w (Ret w R))
    (h : ∀ v w', Below w.heap.size w w' → R v w' → K (a.put o.dst v) w') : o.wp P a w K Q := by
  show o.upon P a K Q ((execOp a.eval o).run P w)
  rw [run_call f vs hop hargs hf hb hn, Oper.upon_enter]
  refine hC.mono ?_
  rintro e w' ⟨v, rfl, hB, hR⟩
  exact h v w' hB hR
end regions
/-- An append whose run is known, alone. -/
theorem wp_append_by {P : Program} {o : Oper} {a : Act} {w : World} {K : Act → World → Prop} {Q : Exit → Act → World → Prop} (s x : Operand) (t : TypeId)
    (ho : o.op = .call { callee := .builtin .append, args := #[s, x], argTypes := #[t, t] }) (sv xv v' : Value) (w' : World) (hs : a.eval s = sv) (hx : a.eval x = xv)
    (hrun : (Builtin.append_ #[t, t] o.type #[sv, xv]).run P w = .ok v' w') (h : K (a.put o.dst v') w') : o.wp P a w K Q := by
  unfold Oper.wp execOp
  simp only [ho, resolve, invoke, builtin, Sem.run_bind, Sem.run_pure, Result.andThen_ok, List.map_toArray, List.map_cons, List.map_nil, hs, hx, hrun]
  exact h

/-- A quiet callee, in a world that has drawn before. -/
theorem Calls.quiet_more {P : Program} {f : FuncId} {args : Array Value} {w : World} {k n : Nat} {v : Value}
    (h : Calls P f args (w.drewN (k + n)) fun e w' => e = .returned v ∧ ∃ m, w' = (w.drewN (k + n)).drewN m) : Calls P f args (w.drewN (k + n)) fun e w'' => e = .returned v ∧ ∃ m, w'' = w.drewN (k + m) :=
  h.mono fun _ _ ⟨he, m, hm⟩ => ⟨he, n + m, by rw [hm, World.drewN_drewN, Nat.add_assoc]⟩

theorem _root_.Go.RowKit.Below.drewN {B : Nat} {a w : World} (h : Below B a w) (n : Nat) : Below B a (w.drewN n) := ⟨h.os, h.tape, h.output, h.size, h.block⟩

end Go.Thd
