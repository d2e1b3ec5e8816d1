/- The law LearnLevels returns true for every input, and each argument reads afterwards as it read before: the row's statement, and its card, which ties the three listed tables to the program's text. No conditions beyond the row's own. -/
import Derived.Test.YtodeddappmfphaaGreatDoorCards
import Derived.Test.YtodeddappmfphaaGreatDoorTie
import Derived.Test.YtodeddappmfphaaGreatDoorLvx
import Derived.Carry
import Derived.Deep.Grids
import Derived.Deep.Slices
import Derived.ChangeSlices
import Derived.WalkKit
import Derived.DataShut
import Derived.ProofKit
import Derived.OpenShut
import Derived.Deep.DeepHandedRow
import Derived.Lib.LaidTab
namespace Go.Proofs.YtodeddappmfphaaGreatDoor
open Go.ChangeShapes Go.WideShapes Go.ChangeAt Go.RowKit Go.Thd Go.Deep

theorem ownK : ownKnob Tryz.prog.godebug = none := by kernel_rfl
/-- A list of numbers, as cells. -/
def numCells : DataW Unit → Array Value
  | .agg l => (l.map fun x => match x with | .lit (.int k z) => Value.int k z | _ => undef).toArray
  | _ => #[]
def putTab (cs : Array Value) : Obj → Obj
  | .cells _ t frozen => .cells cs t frozen
  | o => o
/-- A world in which the three listed tables hold what the row says. -/
noncomputable def laidWorld (os : Os) : World :=
  { World.holding Tryz.prog os ⟨#[], #[], []⟩ with heap := (((World.holding Tryz.prog os ⟨#[], #[], []⟩).heap.modify 0 (putTab (numCells Rows.laid_internal_strconv_uint64pow10))).modify 3 (putTab (numCells Rows.laid_math_bits_deBruijn32tab))).modify 4 (putTab (numCells Rows.laid_math_bits_deBruijn64tab)) }

section
variable {H : Type} {enc : TypeId × Value → H} {P : Program}
/-- A row's last step, where the call has made new blocks and has turned none that were there. -/
theorem row_end {f : Func} {s : ChangeSpec} {W W' : World} {args : Array Value} {v : Value} {ds : List (DataW H)} {before : List MemPlace}
    (hW : DataW.Whole enc P f.params.toList s.vars false W args.toList ds [] before) (hb : Below W.heap.size W W')
    (hr : ∀ (b : Nat) (sp : Nat → Bool) (hd : Bool), DataW.TrodAll enc P W' b sp hd f.resultTypes.toList (v.resultList f.resultTypes.size) (s.fn H (ds ++ [])).results [])
    (ha : DataW.TrodAll enc P W' 0 (fun b => decide (b < W.heap.size)) true f.params.toList args.toList (s.fn H (ds ++ [])).args before)
    (hv : ∀ sp : Nat → Bool, DataW.TrodVars enc P W' sp s.vars (s.fn H (ds ++ [])).vars []) :
    s.post enc P f false true false false W args v W' := by
  refine ⟨ds, [], before, [], before, [], hW, hr _ _ _, ha, hv _, ?_, fun h => by cases h⟩
  exact World.keptBut_mono (fun p hp => ⟨hp, .inr (.inl hp)⟩) (hb.frame (· ∈ before))
theorem cell_lt {w : World} {a : Addr} {v : Value} (h : w.cell? a = some v) : a.block < w.heap.size := by
  by_cases hlt : a.block < w.heap.size
  · exact hlt
  · have hn : w.heap[a.block]? = none := Array.getElem?_eq_none (by omega)
    simp [World.cell?, hn] at h
end

theorem laidOut : laidOutB Tryz.prog = true := by kernel_rfl
theorem cells_bool : (Tryz.prog).cellsOf 4 = 1 := by kernel_rfl
theorem cells_int : (Tryz.prog).cellsOf 3 = 1 := by kernel_rfl
namespace learnLevels
set_option maxRecDepth 100000 in
theorem contract (H : Type) (enc : TypeId × Value → H) (W : World) (base : Nat) (args : Array Value) (ds gs : List (DataW H)) (before : List MemPlace)
    (hval : ∀ (j : Nat) t v, Tryz.f8.params[j]? = some t → args[j]? = some v → Value.okWide Tryz.prog W .any base t v)
    (hW : DataW.Whole enc Tryz.prog Tryz.f8.params.toList Rows.learnLevelsSpec.vars false W args.toList ds gs before) :
    Calls Tryz.prog 8 args W fun e W' => ∃ v, e = .returned v ∧ Rows.learnLevelsSpec.post enc Tryz.prog Tryz.f8 false true false false W args v W' := by
  have hW' := hW
  obtain ⟨p, q, hA0, hV, rfl, hfz, hnd⟩ := hW
  have hA : DataW.TrodAll enc Tryz.prog W 0 (fun _ => true) true Tryz.f8.params.toList args.toList ds p := hA0
  rw [Tryz.params8] at hA hval
  obtain ⟨v0, vs0, d0, ds0, p0, q0, hargs, rfl, rfl, h0, r0⟩ := trodAll_cons hA
  obtain ⟨v1, vs1, d1, ds1, p1, q1, rfl, rfl, rfl, h1, r1⟩ := trodAll_cons r0
  obtain ⟨rfl, rfl, rfl⟩ := trodAll_nil r1
  obtain rfl : args = #[v0, v1] := by cases args; simp_all
  obtain ⟨rfl, rfl⟩ := trodVars_none hV
  obtain ⟨ka, n, kc, rfl⟩ := okWide_slice Tryz.underlying87 (hval 0 87 v0 rfl rfl)
  obtain ⟨qa, m, qc, rfl⟩ := okWide_slice Tryz.underlying29 (hval 1 29 v1 rfl rfl)
  clear hA0
  simp only [List.append_nil] at hW'
  have hlt : ∀ x ∈ p0 ++ p1, x.block < W.heap.size := fun x hx => hW'.lt x hx
  have t0 : ∀ (W' : World), Below W.heap.size W W' → DataW.Trod enc Tryz.prog W' 0 (fun b => decide (b < W.heap.size)) true 87 (.slice ka n kc) d0 p0 :=
    fun W' hb => Below.trod laidOut (by kernel_rfl) (of_decide_eq_true (by kernel_rfl)) h0 hb (fun x hx => hlt x (List.mem_append_left _ hx))
  have t1 : ∀ (W' : World), Below W.heap.size W W' → DataW.Trod enc Tryz.prog W' 0 (fun b => decide (b < W.heap.size)) true 29 (.slice qa m qc) d1 p1 :=
    fun W' hb => Below.trod laidOut (by kernel_rfl) (of_decide_eq_true (by kernel_rfl)) h1 hb (fun x hx => hlt x (List.mem_append_right _ hx))
  have hk : ∃ K : Nat → Bool, ∀ j, j < n → ∃ ad, ka = some ad ∧ ad.block < W.heap.size ∧ W.cell? (ad.add j) = some (.bool (K j)) := by
    obtain ⟨fuel, hf⟩ := h0
    rcases open_bools Tryz.underlying87 Tryz.underlying4 cells_bool hf with ⟨hcs, _⟩ | ⟨a, len, cap, B, hcs, _, hl, _, _, hcell⟩
    · simp [Value.cells] at hcs
      obtain ⟨rfl, rfl, rfl⟩ := hcs
      exact ⟨fun _ => false, fun j hj => by omega⟩
    · simp [Value.cells] at hcs
      obtain ⟨rfl, rfl, rfl⟩ := hcs
      exact ⟨B, fun j hj => ⟨a, rfl, by
        have := cell_lt (hcell j (by omega))
        rwa [ChangeShapes.block_add] at this, hcell j (by omega)⟩⟩
  have hz : ∃ Z : Nat → Int, ∀ j, j < m → ∃ ad, qa = some ad ∧ ad.block < W.heap.size ∧ W.cell? (ad.add j) = some (.int .i64 (Z j)) := by
    obtain ⟨fuel, hf⟩ := h1
    rcases open_ints Tryz.underlying29 Tryz.underlying3 cells_int hf with ⟨hcs, _⟩ | ⟨a, len, cap, zs, hcs, _, hl, _, hzl, _, hcell, _⟩
    · simp [Value.cells] at hcs
      obtain ⟨rfl, rfl, rfl⟩ := hcs
      exact ⟨fun _ => 0, fun j hj => by omega⟩
    · simp [Value.cells] at hcs
      obtain ⟨rfl, rfl, rfl⟩ := hcs
      simp only [if_true] at hzl
      exact ⟨fun j => zs.getD j 0, fun j hj => ⟨a, rfl, by
        have := cell_lt (hcell j (by omega))
        rwa [ChangeShapes.block_add] at this, hcell j (by omega)⟩⟩
  obtain ⟨K, hK⟩ := hk
  obtain ⟨Z, hZ⟩ := hz
  refine (levels_walk W n m ka qa kc qc K hK Z hZ).mono fun e W' ⟨v, he, hb, hv⟩ => ?_
  subst hv
  exact ⟨_, he, row_end hW' hb (fun _ _ _ => trodAll_cons_mk (shut_bool Tryz.underlying4 _) trodAll_mk0) (by
    have := trodAll_cons_mk (t0 W' hb) (trodAll_cons_mk (t1 W' hb) trodAll_mk0)
    rw [List.append_nil] at this
    exact this) (fun _ => rfl)⟩

theorem laid_met (os : Os) : laidMet Tryz.prog Rows.learnLevelsRow.laid ((laidWorld os).forCall (fun _ _ => 0) ⟨#[], #[.slice none 0 0, .slice none 0 0], []⟩).memory :=
  laidMet_of_run' 8 (by kernel_rfl) (by kernel_rfl)
theorem reads (os : Os) {H : Type} (enc : TypeId × Value → H) : ∃ places, DataW.whole enc Tryz.prog ((laidWorld os).forCall (fun _ _ => 0) ⟨#[], #[.slice none 0 0, .slice none 0 0], []⟩).memory Tryz.f8.params.toList Rows.learnLevelsSpec.vars false #[Value.slice none 0 0, .slice none 0 0].toList 8 = some ([.nil, .nil], [], places) :=
  ⟨[], by kernel_rfl⟩

set_option maxRecDepth 100000 in
theorem lifted (os : Os) (started : os.Started) (H : Type) (enc : TypeId × Value → H) (F : Stop.Interp) :
    ReturnsInHanded {} Tryz.checked os 8 .any ((OpenSpec.ofChange Rows.learnLevelsSpec).preRow enc Tryz.prog Tryz.f8 Rows.learnLevelsRow.domain false Rows.learnLevelsRow.laid) (((OpenSpec.ofChange Rows.learnLevelsSpec).at F).post enc Tryz.prog Tryz.f8 false true false false) := by
  obtain ⟨places, hx⟩ := reads os enc
  refine returnsInHanded_of_row (C := Tryz.checked) (s := OpenSpec.ofChange Rows.learnLevelsSpec) ownK started (by kernel_rfl) Tryz.func8
    (witness_row_at (enc := enc) (C := Tryz.checked) false (laidWorld os) #[.slice none 0 0, .slice none 0 0] rfl (by kernel_rfl) (by kernel_rfl) (by kernel_rfl)
      (OpenSpec.preRow_of_cond 8 hx (by kernel_rfl) (fun k hk => by cases hk) (by kernel_rfl) (laid_met os))) ?_
  intro W base args ds gs before hval hW _ _ _ _ _ _
  exact contract H enc W base args ds gs before hval hW

theorem said : Rows.LearnLevelsSaid :=
  OpenClaim.holds_of_cond 8 Tryz.f8 rfl rfl rfl rfl rfl rfl rfl ⟨rfl, rfl, rfl, rfl, rfl⟩ rfl rfl rfl rfl rfl (by kernel_rfl) Tryz.func8 (by kernel_rfl)
    (of_decide_eq_true (by kernel_rfl)) (by unfold Func.isWrapper; first | (rw [if_pos (by decide +kernel)]; kernel_rfl) | (rw [if_neg (by decide +kernel)]; exact ⟨rfl, rfl⟩))
    (fun os started H enc _ F => by rw [OpenClaim.pre_eq_preRow]; exact lifted os started H enc F)

theorem plain (f : FuncId) (fn : Func) (hf : Tryz.pinned.checked.prog.funcNamed "theodolite/theodolitelaw25.LearnLevels" = some f) (hfn : Tryz.pinned.checked.prog.funcs[f]? = some fn) :
    false = Tryz.pinned.checked.prog.looks [] ∧ ∀ (j : Nat) t, fn.params[j]? = some t → Tryz.pinned.checked.prog.wantsStandIn t = false := by
  obtain rfl : f = 8 := Option.some.inj ((show Tryz.prog.funcNamed "theodolite/theodolitelaw25.LearnLevels" = some 8 by kernel_rfl).symm.trans hf) |>.symm
  obtain rfl : fn = Tryz.f8 := (Option.some.inj (Tryz.func8.symm.trans hfn)).symm
  refine ⟨by kernel_rfl, fun j t ht => ?_⟩
  rw [Tryz.params8] at ht
  have h2 : t = 87 ∨ t = 29 := by simpa using Array.mem_of_getElem? ht
  rcases h2 with rfl | rfl
  · exact (show Tryz.prog.wantsStandIn 87 = false by kernel_rfl)
  · exact (show Tryz.prog.wantsStandIn 29 = false by kernel_rfl)

theorem card : Rows.LearnLevelsCardSaid :=
  Claim7.holds_tied_plain_at .later [] _ _ _ _ said (fun _ h => by cases h) (by kernel_rfl) (fun _ h => by cases h) learnLevels_row_tie rfl ⟨rfl, rfl⟩ (by kernel_rfl) rfl plain (by kernel_rfl)
end learnLevels
#print axioms learnLevels.card
end Go.Proofs.YtodeddappmfphaaGreatDoor
