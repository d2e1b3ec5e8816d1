/- Regions that draw their order and store, at their end, into cells that they look at: what the world must meet is asked behind every operation but those stores. -/
import Derived.Test.YtodeddappmfphaaGreatDoorLst
namespace Go.Thd
open Go.RowKit

section
variable {P : Program} {ops : Array Oper} {Q : Exit → Act → World → Prop} {md : Region.Mode} {S : World → Prop} {D : Nat → Bool}

/-- None of D has come up. -/
def noD (D : Nat → Bool) (L : Array Bool) : Prop := ∀ d, D d = true → L.getD d false = false
theorem noD_set {L : Array Bool} {i : Nat} (hi : D i = false) : noD D (L.setIfInBounds i true) ↔ noD D L := by
  constructor
  · intro h d hd
    have hne : i ≠ d := fun e => by rw [e, hd] at hi; cases hi
    have := h d hd
    rwa [getD_set_ne false hne] at this
  · intro h d hd
    have hne : i ≠ d := fun e => by rw [e, hd] at hi; cases hi
    rw [getD_set_ne false hne]
    exact h d hd
def noDb (D : Nat → Bool) (L : Array Bool) : Bool := (List.range L.size).all fun d => !(D d) || !(L.getD d false)
theorem noDb_spec {L : Array Bool} (h : noDb D L = true) : noD D L := by
  intro d hd
  by_cases hs : d < L.size
  · have h1 := List.all_eq_true.1 h d (List.mem_range.2 hs)
    rw [hd] at h1
    simpa using h1
  · simp [Array.getElem?_eq_none (Nat.not_lt.1 hs)]

/-- Whatever order is picked; behind each operation, as long as none of D has come up, the world meets S. -/
def wpD (P : Program) (md : Region.Mode) (ops : Array Oper) (Q : Exit → Act → World → Prop) (S : World → Prop) (D : Nat → Bool) : Nat → Array Bool → Act → World → Prop
  | 0, L, a, w => Region.ready md ops L = [] ∧ Q .normal a w
  | fuel + 1, L, a, w => (Region.ready md ops L = [] → Q .normal a w) ∧
      ∀ i ∈ Region.ready md ops L, wpOp P ops Q i (fun a' w' => (noD D (L.setIfInBounds i true) → S w') ∧ wpD P md ops Q S D fuel (L.setIfInBounds i true) a' w') a w

theorem wpAny_of_wpD : ∀ (fuel : Nat) (L : Array Bool) (a : Act) (w : World), wpD P md ops Q S D fuel L a w → wpAny P md ops Q fuel L a w
  | 0, _, _, _, h => h
  | fuel + 1, _, _, _, h => ⟨h.1, fun i hi => wpOp_mono (fun a' w' h' => wpAny_of_wpD fuel _ a' w' h'.2) (h.2 i hi)⟩

/-- Each of D waits for number i. -/
def waits (md : Region.Mode) (ops : Array Oper) (D : Nat → Bool) (i : Nat) : Bool :=
  (List.range ops.size).all fun j => !(D j) || (match ops[j]? with | some o => o.after.toList.any (fun e => Region.binds md e && e.on == i) | none => true)
theorem waits_spec {i : Nat} (h : waits md ops D i = true) : ∀ j o, ops[j]? = some o → D j = true → ∃ e ∈ o.after, Region.binds md e = true ∧ e.on = i := by
  intro j o ho hD
  have hj : j < ops.size := (Array.getElem?_eq_some_iff.1 ho).1
  have h1 := List.all_eq_true.1 h j (List.mem_range.2 hj)
  rw [hD, ho] at h1
  simp only [Bool.not_true, Bool.false_or, List.any_eq_true, Bool.and_eq_true, beq_iff_eq] at h1
  obtain ⟨e, he, h2, h3⟩ := h1
  exact ⟨e, by simpa using he, h2, h3⟩
theorem ready_not {i : Nat} {L : Array Bool} {oj : Oper} (hr : i ∈ Region.ready md ops L) (hall : ∀ e ∈ oj.after, Region.binds md e = true → L.getD e.on false = true) : ∀ e ∈ oj.after, Region.binds md e = true → e.on ≠ i := by
  intro e he hb heq
  have q1 := hall e he hb
  have q0 := (mem_ready.1 hr).1
  rw [heq] at q1
  by_cases hlt : i < L.size
  · simp [hlt] at q0 q1; rw [q0] at q1; cases q1
  · simp [Array.getElem?_eq_none (Nat.not_lt.1 hlt)] at q1

/-- An operation that yields the same in every world that meets S is taken first, if all of D wait for it. -/
theorem wpD_first {i : Nat} {oi : Oper} {v : Value} (hi : ops[i]? = some oi) (hsel : ∀ (j : Nat) (o : Oper) cs b, ops[j]? = some o → o.op ≠ .select cs b)
    (hQ : ∀ c a w, Q (.panic c) (a.put oi.dst v) w → Q (.panic c) a w) (hw : ∀ j o, ops[j]? = some o → D j = true → ∃ e ∈ o.after, Region.binds md e = true ∧ e.on = i) (hDi : D i = false) :
    ∀ (fuel : Nat) (L : Array Bool) (a : Act) (w : World),
      (∀ j oj, ops[j]? = some oj → j ≠ i → L.getD j true = false → (∀ e ∈ oj.after, Region.binds md e = true → e.on ≠ i) → oi.apart ops oj = true) →
      i ∈ Region.ready md ops L → YieldsIf P ops S oi v a → noD D L → S w →
      wpD P md ops Q S D fuel (L.setIfInBounds i true) (a.put oi.dst v) w → wpD P md ops Q S D (fuel + 1) L a w := by
  intro fuel
  induction fuel with
  | zero =>
    intro L a w _ hr hy _ hS H
    refine ⟨fun h => (by rw [h] at hr; cases hr), fun j hj => ?_⟩
    rcases Decidable.em (j = i) with rfl | hji
    · exact hy.wpOp hi hS ⟨fun _ => hS, H⟩
    · have hjr := ready_mono hj hji
      rw [H.1] at hjr
      cases hjr
  | succ fuel ih =>
    intro L a w hfree hr hy hnl hS H
    refine ⟨fun h => (by rw [h] at hr; cases hr), fun j hj => ?_⟩
    rcases Decidable.em (j = i) with rfl | hji
    · exact hy.wpOp hi hS ⟨fun _ => hS, H⟩
    obtain ⟨hjun, oj, hoj, hall⟩ := mem_ready.1 hj
    have hnot := ready_not hr hall
    have hDj : D j = false := by
      cases hd : D j with
      | false => rfl
      | true =>
        obtain ⟨e, he, hb, heq⟩ := hw j oj hoj hd
        exact absurd heq (hnot e he hb)
    have hstep := wpOp_putIf hoj (hfree j oj hoj hji hjun hnot) (fun cs b => hsel i oi cs b hi) (fun cs b => hsel j oj cs b hoj) hQ hy (H.2 j (ready_mono hj hji))
    have hnl2 : noD D ((L.setIfInBounds i true).setIfInBounds j true) := (noD_set hDj).2 ((noD_set hDi).2 hnl)
    refine wpOp_mono (fun a' w' h3 => ⟨fun _ => h3.2.1 hnl2, ih (L.setIfInBounds j true) a' w' ?_ (ready_mono hr (Ne.symm hji)) h3.1 ((noD_set hDj).2 hnl) (h3.2.1 hnl2) ?_⟩) hstep
    · intro k ok hk hki hun hno
      refine hfree k ok hk hki ?_ hno
      by_cases hjk : j = k
      · subst hjk; exact hjun
      · rw [getD_set_ne true hjk] at hun; exact hun
    · rw [Array.setIfInBounds_comm _ _ hji]
      exact h3.2.2

/-- An operation that yields the same in whatever world is taken first. -/
theorem wpD_firstP {i : Nat} {oi : Oper} {v : Value} (hi : ops[i]? = some oi) (hsel : ∀ (j : Nat) (o : Oper) cs b, ops[j]? = some o → o.op ≠ .select cs b)
    (hQ : ∀ c a w, Q (.panic c) (a.put oi.dst v) w → Q (.panic c) a w) (hDi : D i = false) :
    ∀ (fuel : Nat) (L : Array Bool) (a : Act) (w : World),
      (∀ j oj, ops[j]? = some oj → j ≠ i → L.getD j true = false → (∀ e ∈ oj.after, Region.binds md e = true → e.on ≠ i) → oi.apart ops oj = true) →
      i ∈ Region.ready md ops L → YieldsIf P ops (fun _ => True) oi v a → (noD D L → S w) →
      wpD P md ops Q S D fuel (L.setIfInBounds i true) (a.put oi.dst v) w → wpD P md ops Q S D (fuel + 1) L a w := by
  intro fuel
  induction fuel with
  | zero =>
    intro L a w _ hr hy hS H
    refine ⟨fun h => (by rw [h] at hr; cases hr), fun j hj => ?_⟩
    rcases Decidable.em (j = i) with rfl | hji
    · exact hy.wpOp hi trivial ⟨fun h => hS ((noD_set hDi).1 h), H⟩
    · have hjr := ready_mono hj hji
      rw [H.1] at hjr
      cases hjr
  | succ fuel ih =>
    intro L a w hfree hr hy hS H
    refine ⟨fun h => (by rw [h] at hr; cases hr), fun j hj => ?_⟩
    rcases Decidable.em (j = i) with rfl | hji
    · exact hy.wpOp hi trivial ⟨fun h => hS ((noD_set hDi).1 h), H⟩
    obtain ⟨hjun, oj, hoj, hall⟩ := mem_ready.1 hj
    have hnot := ready_not hr hall
    have hstep := wpOp_putIf hoj (hfree j oj hoj hji hjun hnot) (fun cs b => hsel i oi cs b hi) (fun cs b => hsel j oj cs b hoj) hQ hy (H.2 j (ready_mono hj hji))
    have hsw : noD D (L.setIfInBounds j true) → noD D ((L.setIfInBounds i true).setIfInBounds j true) := fun h => by
      rw [Array.setIfInBounds_comm _ _ (Ne.symm hji)]
      exact (noD_set hDi).2 h
    refine wpOp_mono (fun a' w' h3 => ⟨fun h => h3.2.1 (hsw h), ih (L.setIfInBounds j true) a' w' ?_ (ready_mono hr (Ne.symm hji)) h3.1 (fun h => h3.2.1 (hsw h)) ?_⟩) hstep
    · intro k ok hk hki hun hno
      refine hfree k ok hk hki ?_ hno
      by_cases hjk : j = k
      · subst hjk; exact hjun
      · rw [getD_set_ne true hjk] at hun; exact hun
    · rw [Array.setIfInBounds_comm _ _ hji]
      exact h3.2.2

theorem startD (S : World → Prop) (D : Nat → Bool) (n : Nat) (L : Array Bool) {id : Nat} {a : Act} {w : World} (hm : P.follows .mixedOrders = true) (hn : ops.size = n) (hL : Array.replicate n false = L) (hS : S w.drew)
    (h : S w.drew → wpD P .any ops Q S D n L a w.drew) : (Code.region id ops true).wp P Q a w := by
  subst hn; subst hL
  exact wp_region_any hm (wpAny_of_wpD _ _ _ _ (h hS))
theorem takeD (i fuel : Nat) (d : Option Tmp) (L' : Array Bool) {oi : Oper} {v : Value} {L : Array Bool} {a : Act} {w : World} (hi : ops[i]? = some oi) (hd : oi.dst = d) (hL : L.setIfInBounds i true = L')
    (hs : Region.noSelect ops = true) (hf : Region.free md ops L i = true) (hr : (Region.ready md ops L).contains i = true) (hwt : waits md ops D i = true) (hnl : noDb D L = true) (hDi : D i = false)
    (hQ : ∀ c a w, Q (.panic c) (a.put d v) w → Q (.panic c) a w) (hw : Region.wanted oi (yielded ops a.tmps) = true) (hS : S w) (hy : ∀ w, S w → (execOp a.eval oi).run P w = .ok (.value v) w)
    (h : wpD P md ops Q S D fuel L' (a.put d v) w) : wpD P md ops Q S D (fuel + 1) L a w := by
  subst hL; subst hd
  exact wpD_first hi (Region.noSelect_spec hs) hQ (waits_spec hwt) hDi fuel L a w (Region.free_spec hi hf) (by simpa using hr) (.inl ⟨hw, hy⟩) (noDb_spec hnl) hS h
theorem takeP (i fuel : Nat) (d : Option Tmp) (L' : Array Bool) {oi : Oper} {v : Value} {L : Array Bool} {a : Act} {w : World} (hi : ops[i]? = some oi) (hd : oi.dst = d) (hL : L.setIfInBounds i true = L')
    (hs : Region.noSelect ops = true) (hf : Region.free md ops L i = true) (hr : (Region.ready md ops L).contains i = true) (hDi : D i = false)
    (hQ : ∀ c a w, Q (.panic c) (a.put d v) w → Q (.panic c) a w) (hw : Region.wanted oi (yielded ops a.tmps) = true) (hS : S w) (hy : ∀ w, True → (execOp a.eval oi).run P w = .ok (.value v) w)
    (h : wpD P md ops Q S D fuel L' (a.put d v) w) : wpD P md ops Q S D (fuel + 1) L a w := by
  subst hL; subst hd
  exact wpD_firstP hi (Region.noSelect_spec hs) hQ hDi fuel L a w (Region.free_spec hi hf) (by simpa using hr) (.inl ⟨hw, hy⟩) (fun _ => hS) h
/-- One operation whose guard says no, passed over. -/
theorem skipD (i fuel : Nat) (d : Option Tmp) (L' : Array Bool) {oi : Oper} {L : Array Bool} {a : Act} {w : World} (hi : ops[i]? = some oi) (hd : oi.dst = d) (hL : L.setIfInBounds i true = L')
    (hs : Region.noSelect ops = true) (hf : Region.free md ops L i = true) (hr : (Region.ready md ops L).contains i = true) (hDi : D i = false)
    (hQ : ∀ c a w, Q (.panic c) (a.put d undef) w → Q (.panic c) a w) (hw : Region.wanted oi (yielded ops a.tmps) = false) (hS : S w)
    (h : wpD P md ops Q S D fuel L' (a.put d undef) w) : wpD P md ops Q S D (fuel + 1) L a w := by
  subst hL; subst hd
  exact wpD_firstP hi (Region.noSelect_spec hs) hQ hDi fuel L a w (Region.free_spec hi hf) (by simpa using hr) (.inr ⟨hw, rfl⟩) (fun _ => hS) h
theorem onlyD (i fuel : Nat) (L' : Array Bool) {oi : Oper} {L : Array Bool} {a : Act} {w : World} (hi : ops[i]? = some oi) (hL : L.setIfInBounds i true = L') (hr : Region.ready md ops L = [i])
    (hw : Region.wanted oi (yielded ops a.tmps) = true)
    (h : ∀ K' : Act → World → Prop, (∀ a w, (noD D L' → S w) → wpD P md ops Q S D fuel L' a w → K' a w) → Oper.wp P oi a w K' Q) : wpD P md ops Q S D (fuel + 1) L a w := by
  subst hL
  refine ⟨fun h0 => (by rw [hr] at h0; cases h0), fun j hj => ?_⟩
  rw [hr] at hj
  simp at hj; subst hj
  exact wpOp_step hi (fun K' hK => by rw [if_pos hw]; exact h K' (fun a w hS hW => hK a w ⟨hS, hW⟩))
theorem callD (i fuel : Nat) (d : Option Tmp) (L' : Array Bool) (f : FuncId) (vs : List Value) {oi : Oper} {L : Array Bool} {a : Act} {w : World} {fn : Func} {c : Code} {args : List Operand} {ats : Array TypeId} {R : Value → World → Prop}
    (hi : ops[i]? = some oi) (hd : oi.dst = d) (hL : L.setIfInBounds i true = L') (hr : Region.ready md ops L = [i])
    (hw : Region.wanted oi (yielded ops a.tmps) = true) (hop : oi.op = .call { callee := .value (.func f), args := args.toArray, argTypes := ats }) (hargs : args.map a.eval = vs)
    (hf : P.funcs[f]? = some fn) (hb : fn.body = some c) (hn : (fn.name == "runtime.NumGoroutine") = false) (hC : Calls P f vs.toArray w (Ret w R))
    (h : ∀ v w', Below w.heap.size w w' → R v w' → S w' ∧ wpD P md ops Q S D fuel L' (a.put d v) w') : wpD P md ops Q S D (fuel + 1) L a w := by
  subst hd
  refine onlyD i fuel L' hi hL hr hw fun K hK => ?_
  show oi.upon P a K Q ((execOp a.eval oi).run P w)
  rw [run_call f vs hop hargs hf hb hn, Oper.upon_enter]
  refine hC.mono ?_
  rintro e w' ⟨v, rfl, hB, hR⟩
  exact hK _ _ (fun _ => (h v w' hB hR).1) (h v w' hB hR).2
/-- A call of a function value that the walk knows. -/
theorem callDv (i fuel : Nat) (d : Option Tmp) (L' : Array Bool) (f : FuncId) (vs : List Value) (t : Operand) {oi : Oper} {L : Array Bool} {a : Act} {w : World} {fn : Func} {c : Code} {args : List Operand} {ats : Array TypeId} {R : Value → World → Prop}
    (hi : ops[i]? = some oi) (hd : oi.dst = d) (hL : L.setIfInBounds i true = L') (hr : Region.ready md ops L = [i])
    (hw : Region.wanted oi (yielded ops a.tmps) = true) (hop : oi.op = .call { callee := .value t, args := args.toArray, argTypes := ats }) (ht : a.eval t = .func (.func f) #[] #[]) (hargs : args.map a.eval = vs)
    (hf : P.funcs[f]? = some fn) (hb : fn.body = some c) (hn : (fn.name == "runtime.NumGoroutine") = false) (hC : Calls P f vs.toArray w (Ret w R))
    (h : ∀ v w', Below w.heap.size w w' → R v w' → S w' ∧ wpD P md ops Q S D fuel L' (a.put d v) w') : wpD P md ops Q S D (fuel + 1) L a w := by
  subst hd
  refine onlyD i fuel L' hi hL hr hw fun K hK => ?_
  show oi.upon P a K Q ((execOp a.eval oi).run P w)
  have hn' : fn.name ≠ "runtime.NumGoroutine" := by simpa using hn
  have hrun : (execOp a.eval oi).run P w = .ok (.enter f vs.toArray) w := by
    unfold execOp
    simp [hop, resolve, Deferred.ofValue, ht, hargs, invoke, callFunc, hf, hb, hn']
  rw [hrun, Oper.upon_enter]
  refine hC.mono ?_
  rintro e w' ⟨v, rfl, hB, hR⟩
  exact hK _ _ (fun _ => (h v w' hB hR).1) (h v w' hB hR).2
/-- A call, by whatever contract, among D: behind it S is asked no more. -/
theorem lastD (i fuel : Nat) (d : Option Tmp) (L' : Array Bool) (f : FuncId) (vs : List Value) {oi : Oper} {L : Array Bool} {a : Act} {w : World} {fn : Func} {c : Code} {args : List Operand} {ats : Array TypeId} {R : Ending → World → Prop}
    (hi : ops[i]? = some oi) (hd : oi.dst = d) (hL : L.setIfInBounds i true = L') (hr : Region.ready md ops L = [i]) (hD : D i = true) (hLi : L'.getD i false = true)
    (hw : Region.wanted oi (yielded ops a.tmps) = true) (hop : oi.op = .call { callee := .value (.func f), args := args.toArray, argTypes := ats }) (hargs : args.map a.eval = vs)
    (hf : P.funcs[f]? = some fn) (hb : fn.body = some c) (hn : (fn.name == "runtime.NumGoroutine") = false) (hC : Calls P f vs.toArray w R)
    (h : ∀ e w', R e w' → ∃ v, e = .returned v ∧ wpD P md ops Q S D fuel L' (a.put d v) w') : wpD P md ops Q S D (fuel + 1) L a w := by
  subst hd
  refine onlyD i fuel L' hi hL hr hw fun K hK => ?_
  show oi.upon P a K Q ((execOp a.eval oi).run P w)
  rw [run_call f vs hop hargs hf hb hn, Oper.upon_enter]
  refine hC.mono ?_
  intro e w' hR
  obtain ⟨v, rfl, hW⟩ := h e w' hR
  exact hK _ _ (fun hno => by have := hno i hD; rw [hLi] at this; cases this) hW
theorem doneD {L : Array Bool} {a : Act} {w : World} (hr : Region.ready md ops L = []) (h : Q .normal a w) : ∀ fuel, wpD P md ops Q S D fuel L a w
  | 0 => ⟨hr, h⟩
  | _ + 1 => ⟨fun _ => h, by rw [hr]; simp⟩
end
end Go.Thd
