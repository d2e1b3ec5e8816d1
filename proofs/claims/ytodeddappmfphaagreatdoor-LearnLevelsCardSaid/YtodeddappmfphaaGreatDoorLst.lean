/- Shared words, second part: lists of ints, maps, what is written. -/
import Derived.Test.YtodeddappmfphaaGreatDoorBase
import Derived.Maps.OwnSet
import Derived.Maps.AppendAt
namespace Go.Thd
open Go.RowKit

/-- A number within int. -/
def I64 (x : Int) : Prop := -9223372036854775808 ≤ x ∧ x ≤ 9223372036854775807

/-- A world goes on to another one: of the blocks that were there only those of F may have changed. -/
structure Upd (F : Nat → Prop) (w w' : World) : Prop where
  os : w'.os = w.os
  tape : w'.tape = w.tape
  output : w'.output = w.output
  size : w.heap.size ≤ w'.heap.size
  block : ∀ k, k < w.heap.size → ¬ F k → w'.heap[k]? = w.heap[k]?
theorem Upd.refl (F : Nat → Prop) (w : World) : Upd F w w := ⟨rfl, rfl, rfl, Nat.le_refl _, fun _ _ _ => rfl⟩
theorem Upd.of {F : Nat → Prop} {w w' : World} (h : Below w.heap.size w w') : Upd F w w' := ⟨h.os, h.tape, h.output, h.size, fun k hk _ => h.block k hk⟩
theorem Upd.below {F : Nat → Prop} {w w' : World} (h : Upd F w w') {B : Nat} (hB : ∀ k, k < B → ¬ F k) (hs : B ≤ w.heap.size) : Below B w w' :=
  ⟨h.os, h.tape, h.output, h.size, fun k hk => h.block k (by omega) (hB k hk)⟩
theorem Upd.trans {F : Nat → Prop} {w w' w'' : World} (h : Upd F w w') (h' : Upd F w' w'') : Upd F w w'' :=
  ⟨h'.os.trans h.os, h'.tape.trans h.tape, h'.output.trans h.output, Nat.le_trans h.size h'.size, fun k hk hF => (h'.block k (Nat.lt_of_lt_of_le hk h.size) hF).trans (h.block k hk hF)⟩
/-- .. where the later step may change new blocks besides. -/
theorem Upd.trans' {F F' : Nat → Prop} {w w' w'' : World} (h : Upd F w w') (h' : Upd F' w' w'') (hF : ∀ k, F' k → F k ∨ w.heap.size ≤ k) : Upd F w w'' :=
  ⟨h'.os.trans h.os, h'.tape.trans h.tape, h'.output.trans h.output, Nat.le_trans h.size h'.size, fun k hk hn => (h'.block k (Nat.lt_of_lt_of_le hk h.size) (fun h => by rcases hF k h with h | h; exact hn h; omega)).trans (h.block k hk hn)⟩
theorem Upd.mono {F F' : Nat → Prop} {w w' : World} (h : Upd F w w') (hF : ∀ k, F k → F' k) : Upd F' w w' := ⟨h.os, h.tape, h.output, h.size, fun k hk hn => h.block k hk (fun h => hn (hF k h))⟩
theorem Upd.set {F : Nat → Prop} (w : World) (b o : Nat) (v : Value) (hF : F b) : Upd F w (w.setCell ⟨b, o, none⟩ v) :=
  ⟨rfl, rfl, rfl, by simp [World.setCell], fun k _ hn => Below.heap_setCell _ _ _ _ (fun e => hn (by rw [e]; exact hF))⟩
theorem Upd.grown {F : Nat → Prop} {w w' : World} {row : Option Nat} (h : w.grownBy w' row) (hF : ∀ k, row = some k → F k) : Upd F w w' :=
  ⟨h.os, h.tape, h.output, h.size, fun k hk hn => h.block k hk (fun e => hn (hF k e.symm))⟩
theorem Upd.alloc {F : Nat → Prop} {w w' : World} (h : Upd F w w') (o : Obj) : Upd F w (w'.alloc o) := h.trans (.of ((Below.refl _ _).alloc (Nat.le_refl _) _))
theorem Upd.drewN {F : Nat → Prop} {w w' : World} (h : Upd F w w') (k : Nat) : Upd F w (w'.drewN k) := ⟨h.os, h.tape, h.output, h.size, h.block⟩
theorem Upd.drew {F : Nat → Prop} {w w' : World} (h : Upd F w w') : Upd F w w'.drew := ⟨h.os, h.tape, h.output, h.size, h.block⟩
theorem Upd.cell {F : Nat → Prop} {w w' : World} (h : Upd F w w') {b : Nat} (hb : b < w.heap.size) (hF : ¬ F b) (o : Nat) : w'.cell? ⟨b, o, none⟩ = w.cell? ⟨b, o, none⟩ :=
  World.cell?_of_block (w := w) (a := ⟨b, o, none⟩) (h.block b hb hF)
theorem Upd.frozen {F : Nat → Prop} {w w' : World} (h : Upd F w w') {b : Nat} (hb : b < w.heap.size) (hF : ¬ F b) (o : Nat) : w'.frozen? ⟨b, o, none⟩ = w.frozen? ⟨b, o, none⟩ :=
  World.frozen?_of_block (w := w) (a := ⟨b, o, none⟩) (h.block b hb hF)

/-- A store of what is there changes nothing. -/
theorem setCell_same {w : World} {b o : Nat} {v : Value} (h : w.cell? ⟨b, o, none⟩ = some v) : w.setCell ⟨b, o, none⟩ v = w := by
  unfold World.cell? at h
  cases hb : w.heap[b]? with
  | none => simp [hb] at h
  | some ob =>
    cases ob with
    | cells cs e fz =>
      have h' : cs[o]? = some v := by simpa [hb] using h
      obtain ⟨ho, hv⟩ := Array.getElem?_eq_some_iff.1 h'
      have h1 : cs.setIfInBounds o v = cs := by
        apply Array.ext_getElem?
        intro j
        rw [Array.getElem?_setIfInBounds]
        split
        · rename_i hj; subst hj; rw [h']; try (split <;> first | rfl | omega)
        · rfl
      have h2 : (w.setCell ⟨b, o, none⟩ v).heap = w.heap := by
        apply Array.ext_getElem?
        intro i
        simp only [World.setCell, Array.getElem?_modify]
        split
        · rename_i hi; subst hi; rw [hb]; simp [h1]
        · rfl
      cases w
      simp only [World.setCell] at h2 ⊢
      rw [h2]
    | _ => simp [hb] at h

/-- A slice of ints. -/
def Ints (w : World) (a : Option Addr) (c : Nat) (l : List Int) : Prop :=
  l.length ≤ c ∧ (l = [] ∨ ∃ b off, a = some ⟨b, off, none⟩ ∧ b < w.heap.size ∧ ∀ j, j < l.length → w.cell? ⟨b, off + j, none⟩ = some (.int .i64 (l.getD j 0)))
theorem Ints.mono {w w' : World} {a : Option Addr} {c : Nat} {l : List Int} (h : Ints w a c l) (hb : Below w.heap.size w w') : Ints w' a c l := by
  refine ⟨h.1, ?_⟩
  rcases h.2 with h | ⟨b, off, ha, hlt, hc⟩
  · exact .inl h
  · exact .inr ⟨b, off, ha, Nat.lt_of_lt_of_le hlt hb.size, fun i hi => (hb.cell (p := ⟨b, off + i, none⟩) hlt).trans (hc i hi)⟩
/-- The slice's block is none of F. -/
def Apart (F : Nat → Prop) (a : Option Addr) : Prop := ∀ p, a = some p → ¬ F p.block
theorem Ints.upd {w w' : World} {F : Nat → Prop} {a : Option Addr} {c : Nat} {l : List Int} (h : Ints w a c l) (hu : Upd F w w') (hF : Apart F a) : Ints w' a c l := by
  refine ⟨h.1, ?_⟩
  rcases h.2 with h | ⟨b, off, ha, hlt, hc⟩
  · exact .inl h
  · exact .inr ⟨b, off, ha, Nat.lt_of_lt_of_le hlt hu.size, fun i hi => (hu.cell hlt (hF _ ha) _).trans (hc i hi)⟩


theorem Ints.upd' {w w' : World} {F : Nat → Prop} {a : Option Addr} {c : Nat} {l : List Int} (h : Ints w a c l) (hu : Upd F w w') (hF : l ≠ [] → Apart F a) : Ints w' a c l := by
  by_cases hl : l = []
  · subst hl; exact ⟨h.1, .inl rfl⟩
  · exact h.upd hu (hF hl)
theorem Ints.lt {w : World} {a : Option Addr} {c : Nat} {l : List Int} (h : Ints w a c l) (hl : l ≠ []) : ∀ p, a = some p → p.block < w.heap.size := by
  intro p hp
  rcases h.2 with h | ⟨b, off, rfl, hb, _⟩
  · exact absurd h hl
  · cases hp; exact hb

/-- A slice of ints that is the program's own. -/
def OwnI (w : World) (v : Value) (l : List Int) : Prop := w.ownsRow 0 3 1 v l.length (l.map (Value.int .i64))
theorem OwnI.nil (w : World) : OwnI w (.slice none 0 0) [] := World.ownsRow_nil _ _ _ _
theorem OwnI.slice {w : World} {v : Value} {l : List Int} (h : OwnI w v l) : ∃ a c, v = .slice a l.length c ∧ Ints w a c l ∧ (a = none ∧ l = [] ∧ c = 0 ∨ ∃ b, a = some ⟨b, 0, none⟩ ∧ v.ownBlock = some b ∧ b < w.heap.size) := by
  rcases h.2 with ⟨rfl, h0⟩ | ⟨g, cap, cur, rfl, _, hg, hn, hm, hs, ht⟩
  · have : l = [] := by simpa using h0
    subst this
    exact ⟨none, 0, rfl, ⟨Nat.le_refl _, .inl rfl⟩, .inl ⟨rfl, rfl, rfl⟩⟩
  · have hlt := (Array.getElem?_eq_some_iff.1 hg).1
    refine ⟨some ⟨g, 0, none⟩, cap, rfl, ⟨hn, .inr ⟨g, 0, rfl, hlt, fun j hj => ?_⟩⟩, .inr ⟨g, rfl, rfl, hlt⟩⟩
    have h1 : (cur.toList.take (l.length * 1))[j]? = some (.int .i64 (l.getD j 0)) := by
      rw [ht, List.getElem?_map, List.getElem?_eq_getElem hj]
      simp [List.getD_eq_getElem?_getD, List.getElem?_eq_getElem hj]
    rw [List.getElem?_take, if_pos (by omega)] at h1
    rw [cell_of_row w g (0 + j) cur _ (0, 0) hg, Nat.zero_add]
    simpa using h1
theorem OwnI.upd {w w' : World} {F : Nat → Prop} {v : Value} {l : List Int} (h : OwnI w v l) (hu : Upd F w w') (hF : ∀ b, v.ownBlock = some b → ¬ F b) : OwnI w' v l := by
  refine ⟨h.1, ?_⟩
  rcases h.2 with hn | ⟨g, cap, cur, rfl, hb, hg, rest⟩
  · exact .inl hn
  · refine .inr ⟨g, cap, cur, rfl, hb, ?_, rest⟩
    rw [hu.block g (Array.getElem?_eq_some_iff.1 hg).1 (hF g rfl)]
    exact hg
theorem OwnI.mono {w w' : World} {v : Value} {l : List Int} (h : OwnI w v l) (hb : Below w.heap.size w w') : OwnI w' v l := h.upd (F := fun _ => False) (.of hb) (fun _ _ h => h)

/-- A cell of an own row is stored. -/
theorem ownsRow_set {w : World} {base : Nat} {e : TypeId} {size : Nat} {g n cap : Nat} {xs : List Value} (h : w.ownsRow base e size (.slice (some ⟨g, 0, none⟩) n cap) n xs) (i : Nat) (u : Value) :
    (w.setCell ⟨g, i, none⟩ u).ownsRow base e size (.slice (some ⟨g, 0, none⟩) n cap) n (xs.set i u) := by
  refine ⟨by simpa using h.1, ?_⟩
  rcases h.2 with ⟨h0, _⟩ | ⟨g', cap', cur, hv, hb, hg, hn, hm, hs, ht⟩
  · cases h0
  · cases hv
    refine .inr ⟨g, cap, cur.setIfInBounds i u, rfl, hb, ?_, hn, hm, by simpa using hs, ?_⟩
    · simp [World.setCell, Array.getElem?_modify, hg]
    · rw [Array.toList_setIfInBounds, List.take_set, ht]
theorem ownsRow_upd {w w' : World} {F : Nat → Prop} {base : Nat} {e : TypeId} {size : Nat} {v : Value} {n : Nat} {xs : List Value} (h : w.ownsRow base e size v n xs) (hu : Upd F w w') (hF : ∀ b, v.ownBlock = some b → ¬ F b) : w'.ownsRow base e size v n xs := by
  refine ⟨h.1, ?_⟩
  rcases h.2 with hn | ⟨g, cap, cur, rfl, hb, hg, rest⟩
  · exact .inl hn
  · refine .inr ⟨g, cap, cur, rfl, hb, ?_, rest⟩
    rw [hu.block g (Array.getElem?_eq_some_iff.1 hg).1 (hF g rfl)]
    exact hg

section maps
open Go.Maps Go.ChangeMaps
/-- A map's element, as it is. -/
def heldR (v : Value) : Option (DataW Value × List MemPlace) := some (.held v, [])
open Classical in
noncomputable def putK (f : Lit → Option Value) (kl : Lit) (v : Option Value) : Lit → Option Value := fun x => if x = kl then v else f x
theorem putK_same (f : Lit → Option Value) (kl : Lit) (v : Option Value) : putK f kl v kl = v := by simp [putK]
theorem putK_other (f : Lit → Option Value) {kl x : Lit} (v : Option Value) (h : x ≠ kl) : putK f kl v x = f x := by simp [putK, h]
/-- Block b is a map of at most n entries: at a key what f says. -/
def MapV (w : World) (P : Program) (k : TypeId) (b n : Nat) (f : Lit → Option Value) : Prop :=
  ∃ D, w.ownsMap P k heldR b n D ∧ ∀ kl, has D kl = (f kl).isSome ∧ ∀ z, D.atKey kl (.held z) = .held ((f kl).getD z)
variable {P : Program} {k : TypeId} {w : World} {b n : Nat} {f : Lit → Option Value}
theorem MapV.made (w : World) (P : Program) (k : TypeId) : MapV (w.alloc (.map #[] 0)) P k w.heap.size 0 (fun _ => none) :=
  ⟨_, World.ownsMap_made w P k heldR, fun kl => ⟨by rfl, fun z => by rfl⟩⟩
theorem MapV.lt (h : MapV w P k b n f) : b < w.heap.size := h.choose_spec.1.lt
theorem MapV.upd {w' : World} {F : Nat → Prop} (h : MapV w P k b n f) (hu : Upd F w w') (hF : ¬ F b) : MapV w' P k b n f := by
  obtain ⟨D, ⟨es, clock, hb, rest⟩, hD⟩ := h
  exact ⟨D, ⟨es, clock, by rw [hu.block b (Array.getElem?_eq_some_iff.1 hb).1 hF]; exact hb, rest⟩, hD⟩
theorem MapV.mono {w' : World} (h : MapV w P k b n f) (hb : Below w.heap.size w w') : MapV w' P k b n f := h.upd (F := fun _ => False) (.of hb) (fun h => h)
theorem heldR_inv {v : Value} {x : Value} {ps : List MemPlace} (h : heldR v = some (.held x, ps)) : v = x := by
  simp only [heldR, Option.some.injEq, Prod.mk.injEq, DataW.held.injEq] at h
  exact h.1
theorem MapV.look {t e : TypeId} (h : MapV w P k b n f) (K : Keyed P k) (ht : P.underlying t = some (.map k e)) {z : Value} (hz : (zeroValue e).run P w = .ok z w) {key : Value} {kl : Lit} (hkey : keyOf P k key = some kl) :
    (Instr.lookup t (.map (some b)) key false).run P w = .ok ((f kl).getD z) w := by
  obtain ⟨D, ho, hD⟩ := h
  obtain ⟨v, ps, hrun, hv⟩ := ho.lookup K ht hz (R := heldR) (zd := .held z) (zp := []) rfl hkey
  rw [(hD kl).2] at hv
  rw [hrun, heldR_inv hv]
theorem MapV.look_ok {t e : TypeId} (h : MapV w P k b n f) (K : Keyed P k) (ht : P.underlying t = some (.map k e)) {z : Value} (hz : (zeroValue e).run P w = .ok z w) {key : Value} {kl : Lit} (hkey : keyOf P k key = some kl) :
    (Instr.lookup t (.map (some b)) key true).run P w = .ok (.tuple #[(f kl).getD z, .bool (f kl).isSome]) w := by
  obtain ⟨D, ho, hD⟩ := h
  obtain ⟨v, ps, hrun, hv⟩ := ho.look_ok K ht hz (R := heldR) (zd := .held z) (zp := []) rfl hkey
  rw [(hD kl).2] at hv
  rw [hrun, heldR_inv hv, (hD kl).1]
theorem MapV.store {t e : TypeId} (h : MapV w P k b n f) (K : Keyed P k) (ht : P.underlying t = some (.map k e)) (hn : n < maxLen) {key val : Value} {kl : Lit} (hkey : keyOf P k key = some kl) :
    ∃ w', (Instr.mapUpdate t (.map (some b)) key val).run P w = .ok () w' ∧ MapV w' P k b (n + 1) (putK f kl (some val)) ∧ Upd (· = b) w w' := by
  obtain ⟨D, ho, hD⟩ := h
  obtain ⟨w', hrun, ho', hg⟩ := ho.update K ht hn (R := heldR) (d := .held val) (ps := []) hkey (val := val) rfl
  refine ⟨w', hrun, ⟨_, ho', fun x => ?_⟩, .grown hg (fun k hk => by simpa using hk.symm)⟩
  by_cases hx : x = kl
  · subst hx
    refine ⟨?_, fun z => ?_⟩
    · rw [has_put_same ho.isMap (K.key hkey), putK_same]; rfl
    · rw [atKey_put_same ho.isMap (K.key hkey), putK_same]; rfl
  · refine ⟨?_, fun z => ?_⟩
    · rw [has_put_other hx, putK_other _ _ hx]; exact (hD x).1
    · rw [atKey_put_other hx, putK_other _ _ hx]; exact (hD x).2 z
theorem MapV.drop {t e : TypeId} (h : MapV w P k b n f) (K : Keyed P k) (ht : P.underlying t = some (.map k e)) {key : Value} {kl : Lit} (hkey : keyOf P k key = some kl) (ty : TypeId) :
    ∃ w', (Builtin.delete_ #[t, k] ty #[.map (some b), key]).run P w = .ok (.tuple #[]) w' ∧ MapV w' P k b n (putK f kl none) ∧ Upd (· = b) w w' := by
  obtain ⟨D, ho, hD⟩ := h
  obtain ⟨w', hrun, ho', hg⟩ := ho.drop K ht hkey ty
  refine ⟨w', hrun, ⟨_, ho', fun x => ?_⟩, .grown hg.grown (fun k hk => by simpa using hk.symm)⟩
  by_cases hx : x = kl
  · subst hx
    refine ⟨?_, fun z => ?_⟩
    · rw [has_del_same, putK_same]; rfl
    · rw [atKey_del_same, putK_same]; rfl
  · refine ⟨?_, fun z => ?_⟩
    · rw [has_del_other hx, putK_other _ _ hx]; exact (hD x).1
    · rw [atKey_del_other hx, putK_other _ _ hx]; exact (hD x).2 z
/-- A map of ints' keys. -/
def onI (f : Int → Option Value) : Lit → Option Value
  | .int .i64 x => f x
  | _ => none
def onS (f : List UInt8 → Option Value) : Lit → Option Value
  | .string x => f x
  | _ => none
theorem putK_onI (f : Int → Option Value) (a : Int) (v : Option Value) : putK (onI f) (.int .i64 a) v = onI fun x => if x = a then v else f x := by
  funext x
  by_cases h : x = .int .i64 a
  · subst h; rw [putK_same]; simp [onI]
  · rw [putK_other _ _ h]
    unfold onI
    split
    · rename_i y; exact (if_neg (fun e : y = a => h (by rw [e]))).symm
    · rfl
theorem putK_onS (f : List UInt8 → Option Value) (a : List UInt8) (v : Option Value) : putK (onS f) (.string a) v = onS fun x => if x = a then v else f x := by
  funext x
  by_cases h : x = .string a
  · subst h; rw [putK_same]; simp [onS]
  · rw [putK_other _ _ h]
    unfold onS
    split
    · rename_i y; exact (if_neg (fun e : y = a => h (by rw [e]))).symm
    · rfl
theorem onI_none : (onI fun _ => none) = fun _ => none := by funext x; unfold onI; split <;> rfl
theorem onS_none : (onS fun _ => none) = fun _ => none := by funext x; unfold onS; split <;> rfl
theorem key_int {k : TypeId} (hk : P.underlying k = some (.int .i64)) {a : Int} (h : I64 a) : keyOf P k (.int .i64 a) = some (.int .i64 a) :=
  keyOf_int_mk hk (WalkArith.wf_i64 h)
theorem MapV.alloc (h : MapV w P k b n f) (o : Obj) : MapV (w.alloc o) P k b n f := h.mono ((Below.refl _ _).alloc (Nat.le_refl _) _)
/-- 'v, ok := m[k]', at the operation. -/
theorem wpList_lookV_ok {w : World} {ops : Array Oper} {rest : List Oper} {o : Oper} {a : Act} {Q : Exit → Act → World → Prop} (hg : o.guard = none) (m x : Operand) (t : TypeId) (hop : o.op = Op.lookup t m x true)
    (k e : TypeId) (K : Keyed P k) (ht : P.underlying t = some (.map k e)) {z : Value} (hz : (zeroValue e).run P w = .ok z w) (b n : Nat) (f : Lit → Option Value)
    (hm : a.eval m = .map (some b)) (hown : MapV w P k b n f) (key : Value) (kl : Lit) (hx : a.eval x = key) (hkey : keyOf P k key = some kl)
    (hK : wpList P ops Q rest (a.put o.dst (.tuple #[(f kl).getD z, .bool (f kl).isSome])) w) :
    wpList P ops Q (o :: rest) a w := by
  refine wpList_plain hg fun K' hK' => ?_
  have hrun := hown.look_ok K ht hz hkey
  unfold Oper.wp
  simp [execOp, hop, hm, hx, hrun, Result.andThen]
  exact hK' _ _ hK
/-- 'm[k]', at the operation. -/
theorem wpList_lookV {w : World} {ops : Array Oper} {rest : List Oper} {o : Oper} {a : Act} {Q : Exit → Act → World → Prop} (hg : o.guard = none) (m x : Operand) (t : TypeId) (hop : o.op = Op.lookup t m x false)
    (k e : TypeId) (K : Keyed P k) (ht : P.underlying t = some (.map k e)) {z : Value} (hz : (zeroValue e).run P w = .ok z w) (b n : Nat) (f : Lit → Option Value)
    (hm : a.eval m = .map (some b)) (hown : MapV w P k b n f) (key : Value) (kl : Lit) (hx : a.eval x = key) (hkey : keyOf P k key = some kl)
    (hK : wpList P ops Q rest (a.put o.dst ((f kl).getD z)) w) :
    wpList P ops Q (o :: rest) a w := by
  refine wpList_plain hg fun K' hK' => ?_
  have hrun := hown.look K ht hz hkey
  unfold Oper.wp
  simp [execOp, hop, hm, hx, hrun, Result.andThen]
  exact hK' _ _ hK
/-- 'm[k] = v', at the operation. -/
theorem wpList_storeV {w : World} {ops : Array Oper} {rest : List Oper} {o : Oper} {a : Act} {Q : Exit → Act → World → Prop} (hg : o.guard = none) (m x v : Operand) (t : TypeId) (hop : o.op = Op.mapUpdate t m x v)
    (k e : TypeId) (K : Keyed P k) (ht : P.underlying t = some (.map k e)) (b n : Nat) (f : Lit → Option Value)
    (hm : a.eval m = .map (some b)) (hown : MapV w P k b n f) (hn : n < maxLen) (key val : Value) (kl : Lit) (hx : a.eval x = key) (hv : a.eval v = val) (hkey : keyOf P k key = some kl)
    (hK : ∀ w', MapV w' P k b (n + 1) (putK f kl (some val)) → Upd (· = b) w w' → wpList P ops Q rest (a.put o.dst undef) w') :
    wpList P ops Q (o :: rest) a w := by
  refine wpList_plain hg fun K' hK' => ?_
  obtain ⟨w', hrun, r1, r2⟩ := hown.store K ht hn hkey (val := val)
  unfold Oper.wp
  simp [execOp, hop, hm, hx, hv, hrun, Result.andThen]
  exact hK' _ _ (hK w' r1 r2)
end maps

/-- An append whose run is known, as one step of a region that draws ('go_region_law'). -/
theorem step_append_by {P : Program} {ops : Array Oper} {o : Oper} {a : Act} {w : World} {K : Act → World → Prop} {Q : Exit → Act → World → Prop} {E : Prop} (hgd : o.guard = none) (s x : Operand) (t : TypeId)
    (ho : o.op = .call { callee := .builtin .append, args := #[s, x], argTypes := #[t, t] }) (sv xv v' : Value) (w' : World) (hs : a.eval s = sv) (hx : a.eval x = xv)
    (hrun : (Builtin.append_ #[t, t] o.type #[sv, xv]).run P w = .ok v' w') (h : K (a.put o.dst v') w') : if Region.wanted o (yielded ops a.tmps) = true then Oper.wp P o a w K Q else E := by
  have hw : Region.wanted o (yielded ops a.tmps) = true := by simp [Region.wanted, hgd]
  rw [if_pos hw]
  exact wp_append_by s x t ho sv xv v' w' hs hx hrun h

/-- What a new block holds. -/
theorem news_cells (w : World) (cs : List Value) (e : TypeId) (j : Nat) (u : Value) (h : cs[j]? = some u) : (w.alloc (.cells cs.toArray e)).cell? ((⟨w.heap.size, 0, none⟩ : Addr).add j) = some u := by
  have hadd : (⟨w.heap.size, 0, none⟩ : Addr).add j = ⟨w.heap.size, j, none⟩ := by unfold Addr.add; split <;> simp_all
  have hh := heap_alloc_new w (.cells cs.toArray e)
  rw [hadd]
  simp only [World.cell?, hh]
  simpa using h

/-- A stretch of code ends so, and in no other way: to bring several orders together again. -/
def AtEnd (A : Act) (Z : World) : Exit → Act → World → Prop
  | .normal, a, w => a = A ∧ w = Z
  | _, _, _ => False
theorem AtEnd.is {A : Act} {Z : World} {e : Exit} {a : Act} {w : World} (h : AtEnd A Z e a w) : e = .normal ∧ a = A ∧ w = Z := by
  cases e <;> first | exact h.elim | exact ⟨rfl, h⟩
theorem AtEnd.mk {a : Act} {w : World} : AtEnd a w .normal a w := ⟨rfl, rfl⟩

/-- A closure of one parameter called, by its contract. -/
theorem wpList_closure {P : Program} {ops : Array Oper} {rest : List Oper} {o : Oper} {a : Act} {w : World} {Q : Exit → Act → World → Prop} (hgd : o.guard = none) (t x : Operand) (ats : Array TypeId)
    (ho : o.op = .call { callee := .value t, args := #[x], argTypes := ats }) (f : FuncId) (caps : Array Value) (ht : a.eval t = .func (.func f) #[] caps) (xv : Value) (hx : a.eval x = xv)
    {fn : Func} {c : Code} (hf : P.funcs[f]? = some fn) (hb : fn.body = some c) (hn : (fn.name == "runtime.NumGoroutine") = false) {R : Value → World → Prop}
    (hC : Calls P f (#[xv] ++ caps) w (Ret w R)) (h : ∀ v w', Below w.heap.size w w' → R v w' → wpList P ops Q rest (a.put o.dst v) w') : wpList P ops Q (o :: rest) a w := by
  refine wpList_plain hgd fun K hK => ?_
  show o.upon P a K Q ((execOp a.eval o).run P w)
  have hn' : fn.name ≠ "runtime.NumGoroutine" := by simpa using hn
  have hrun : (execOp a.eval o).run P w = .ok (.enter f (#[xv] ++ caps)) w := by
    unfold execOp
    simp [ho, resolve, Deferred.ofValue, ht, hx, invoke, callFunc, hf, hb, hn']
  rw [hrun, Oper.upon_enter]
  refine hC.mono ?_
  rintro e w' ⟨v, rfl, hB, hR⟩
  exact hK _ _ (h v w' hB hR)

/-- A call, by whatever contract, where it alone may come up. -/
theorem step_callG {P : Program} {ops : Array Oper} {Q : Exit → Act → World → Prop} {md : Region.Mode} {S : World → Prop} (i fuel : Nat) (d : Option Tmp) (L' : Array Bool) (f : FuncId) (vs : List Value) {oi : Oper} {L : Array Bool} {a : Act} {w : World} {fn : Func} {c : Code} {args : List Operand} {ats : Array TypeId} {R : Ending → World → Prop}
    (hi : ops[i]? = some oi) (hd : oi.dst = d) (hL : L.setIfInBounds i true = L') (hr : Region.ready md ops L = [i])
    (hw : Region.wanted oi (yielded ops a.tmps) = true) (hop : oi.op = .call { callee := .value (.func f), args := args.toArray, argTypes := ats }) (hargs : args.map a.eval = vs)
    (hf : P.funcs[f]? = some fn) (hb : fn.body = some c) (hn : (fn.name == "runtime.NumGoroutine") = false) (hC : Calls P f vs.toArray w R)
    (h : ∀ e w', R e w' → ∃ v, e = .returned v ∧ S w' ∧ wpAnyH P md ops Q S fuel L' (a.put d v) w') : wpAnyH P md ops Q S (fuel + 1) L a w := by
  subst hd
  refine step_only i fuel L' hi hL hr hw fun K hK => ?_
  show oi.upon P a K Q ((execOp a.eval oi).run P w)
  rw [run_call f vs hop hargs hf hb hn, Oper.upon_enter]
  refine hC.mono ?_
  intro e w' hR
  obtain ⟨v, rfl, hS, hW⟩ := h e w' hR
  exact hK _ _ hS hW
end Go.Thd
