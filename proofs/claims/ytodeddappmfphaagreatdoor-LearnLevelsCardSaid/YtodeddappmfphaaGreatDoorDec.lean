/- The trail's Decide and Force, where they are lawful. -/
import Derived.Test.YtodeddappmfphaaGreatDoorPut
import Derived.Test.YtodeddappmfphaaGreatDoorLil
namespace Go.Proofs.YtodeddappmfphaaGreatDoor
open Go.RowKit Go.Thd

def St.up (S : St) : St := { S with lv := S.lv + 1 }

theorem Tr.leveled {w : World} {T : TA} {S : St} (h : Tr w T S) (hl : S.lv < 1000) : Tr (w.setCell ⟨T.bt, 6, none⟩ (.int .i64 (S.lv + 1))) T S.up := by
  have hs : Upd (· = T.bt) w (w.setCell ⟨T.bt, 6, none⟩ (.int .i64 (S.lv + 1))) := Upd.set _ _ _ _ rfl
  have hF : ∀ k, k = T.bt → T.F k := fun k e => .inl e
  refine { head := ?_, atoms := ?_, ents := ?_, vals := ?_, vars := ?_, whys := ?_, ne1 := h.ne1, ne2 := h.ne2, ne3 := h.ne3, ne4 := h.ne4, ent := h.ent, few := h.few, fewE := h.fewE, pos := h.pos, lvl := ?_ }
  · have h2 := h.head
    show (w.setCell ⟨T.bt, 6, none⟩ (.int .i64 (S.lv + 1))).heap[T.bt]? = some (.cells #[T.ms, .slice (some ⟨T.ba, 0, none⟩) S.n T.ca, T.mat, T.mof, .map (some T.mv), T.ev, .int .i64 (S.lv + 1)] _ (0, 0))
    simp [World.setCell, Array.getElem?_modify, h2]
  · refine ownsRow_upd h.atoms hs (fun b hb e => h.ne1 ?_)
    rw [← e]
    have h1 : T.ba = b := by simpa [Value.ownBlock] using hb
    rw [h1]
  · exact ownsRow_upd h.ents hs (fun b hb e => h.ne2 (by rw [← e]; exact hb))
  · exact h.vals.upd hs (fun e => h.ne4 (hF _ e))
  · intro x hx
    obtain ⟨h1, h2, h3, h4, h5⟩ := h.vars x hx
    exact ⟨by rw [hs.cell h5 (fun e => h4 (hF _ e))]; exact h1, h2, h3, h4, Nat.lt_of_lt_of_le h5 hs.size⟩
  · intro x hx
    obtain ⟨h1, h2⟩ := h.whys x hx
    exact ⟨h1.upd' hs (fun hl p hp e => h2.resolve_left hl p hp (hF _ e)), h2⟩
  · have := h.lvl
    show 0 ≤ S.lv + 1 ∧ S.lv + 1 ≤ 1000
    omega

theorem put_nil {w : World} {T : TA} {S : St} (h : Tr w T S) (k l : Int) (hk : (k != 3) = true) (hl : I64 l) (hs : S.is l = true) (hm : S.m < 1000) :
    Calls Tryz.prog 68 #[.pointer (some ⟨T.bt, 0, none⟩), .agg #[.int .i64 k, .int .i64 l, .slice none 0 0, .int .i64 0, .int .i64 0, .bool false, .bool false, .slice none 0 0, .slice none 0 0, .int .i64 0, .int .i64 0]] w
      fun e w' => e = .returned (.tuple #[]) ∧ Upd T.F w w' ∧ ∃ ev, Tr w' (T.put S.m ev none 0) (S.put k l []) ∧ ∀ b, ev.ownBlock = some b → T.ev.ownBlock = some b ∨ w.heap.size ≤ b :=
  put_any h k l [] none 0 hk hl hs hm ⟨Nat.le_refl _, .inl rfl⟩ (fun _ h => by cases h)

/-- The trail that a step leaves. -/
def Goes (w : World) (T : TA) (S' : St) (w' : World) : Prop := Upd T.F w w' ∧ ∃ T', Tr w' T' S' ∧ T'.bt = T.bt ∧ ∀ k, T'.F k → T.F k ∨ w.heap.size ≤ k
theorem Goes.put {w w' : World} {T : TA} {S' : St} {m : Nat} {ev : Value} {a : Option Addr} {c : Nat} (h1 : Upd T.F w w') (h2 : Tr w' (T.put m ev a c) S') (h3 : ∀ b, ev.ownBlock = some b → T.ev.ownBlock = some b ∨ w.heap.size ≤ b) : Goes w T S' w' :=
  ⟨h1, _, h2, rfl, by
    rintro k (h | h | h)
    · exact .inl (.inl h)
    · exact .inl (.inr (.inl h))
    · rcases h3 k h with h | h
      · exact .inl (.inr (.inr h))
      · exact .inr h⟩
theorem Goes.after {w w1 w' : World} {T : TA} {S' : St} (h : Upd T.F w w1) (h' : Goes w1 T S' w') : Goes w T S' w' := by
  obtain ⟨h1, T', h2, h3, h4⟩ := h'
  exact ⟨h.trans h1, T', h2, h3, fun k hk => (h4 k hk).imp id (fun h' => Nat.le_trans h.size h')⟩

theorem decide_ok {w : World} {T : TA} {S : St} (h : Tr w T S) (k : Int) (hk : I64 k) (hs : S.is k = true) (hv : S.val k = 0) (hm : S.m < 1000) (hl : S.lv < 1000) :
    Calls Tryz.prog 29 #[.pointer (some ⟨T.bt, 0, none⟩), .int .i64 k] w fun e w' => e = .returned (.int .i64 0) ∧ Goes w T (S.up.put 1 k []) w' := by
  have HS := is_any h k hk
  rw [hs] at HS
  have HS' := Lib.hid HS
  have HV := lit_any h k hk
  rw [hv] at HV
  have HV' := Lib.hid HV
  have HT := Lib.hid h
  have HK := Lib.hid hk
  have HI := Lib.hid hs
  have HL := Lib.hid hl
  have HM := Lib.hid hm
  have hlv := h.lvl
  clear HS HV hs hv hl hm hk
  go_enter Tryz.func29, Tryz.ntmps29
  go_wp2_with fail
  with_reducible refine HS'.out.mono ?_
  rintro e w' ⟨v, rfl, rfl, rfl⟩
  go_wp2_with fail
  with_reducible refine HV'.out.mono ?_
  rintro e w1 ⟨v, rfl, hb, rfl⟩
  have HT1 := Lib.hid (HT.out.mono hb)
  have HB := Lib.hid hb
  obtain ⟨c1, c4, c5, c6⟩ := HT1.out.cells
  have hf6 := HT1.out.frozen 6
  clear h hb HV' HS' c1 c4 c5
  go_wp2_with fail
  have HT2 := Lib.hid (HT1.out.leveled HL.out)
  have HI2 : Hid (S.up.is k = true) := HI.out
  have HM2 : Hid (S.up.m < 1000) := HM.out
  with_reducible refine (put_nil HT2.out 1 k rfl HK.out HI2.out HM2.out).mono ?_
  rintro e w3 ⟨rfl, hU, ev, hT3, hev⟩
  go_wp2_with fail
  go_ret
  refine ⟨rfl, ?_⟩
  have hU1 : Upd T.F w1 (w1.setCell ⟨T.bt, 6, none⟩ (.int .i64 (S.lv + 1))) := Upd.set _ _ _ _ (.inl rfl)
  exact Goes.after ((Upd.of HB.out).trans hU1) (Goes.put hU hT3 hev)
/-- Force's closure: is one other than the literal, and not false? -/
theorem force1_any {w : World} {T : TA} {S : St} (h : Tr w T S) (b0 b1 : Nat) (k x : Int) (h0 : w.cell? ⟨b0, 0, none⟩ = some (.pointer (some ⟨T.bt, 0, none⟩))) (h1 : w.cell? ⟨b1, 0, none⟩ = some (.int .i64 k)) (hx : I64 x) :
    Calls Tryz.prog 80 #[.int .i64 x, .pointer (some ⟨b1, 0, none⟩), .pointer (some ⟨b0, 0, none⟩)] w (Ret w fun v _ => v = .bool (x != k && S.val x != -1)) := by
  have HV := Lib.hid (lit_any h x hx)
  clear h hx
  cases hne : (x != k) with
  | false =>
    go_enter Tryz.func80, Tryz.ntmps80
    go_wp2_with fail
    go_ret
    exact ⟨_, rfl, Below.refl _ _, rfl⟩
  | true =>
    go_enter Tryz.func80, Tryz.ntmps80
    go_wp2_with fail
    with_reducible refine HV.out.mono ?_
    rintro e w' ⟨v, rfl, hb, rfl⟩
    go_wp2_with fail
    go_ret
    exact ⟨_, rfl, hb, by simp⟩

theorem Tr.Flt {w : World} {T : TA} {S : St} (h : Tr w T S) {k : Nat} (hk : T.F k) : k < w.heap.size := by
  rcases hk with h1 | h1 | h1
  · rw [h1]; exact h.lt
  · rw [h1]; exact h.atomLt
  · exact (h.ents.lt _ h1).2
theorem apart_new {w : World} {T : TA} {S : St} (h : Tr w T S) {a : Option Addr} {n c : Nat} (hf : ∀ b, (Value.slice a n c).ownBlock = some b → w.heap.size ≤ b) : Apart T.F a := by
  intro p hp hF
  subst hp
  have h1 := h.Flt hF
  have h2 := hf p.block rfl
  omega

set_option maxRecDepth 100000 in
set_option maxHeartbeats 1000000 in
theorem force_ok {w : World} {T : TA} {S : St} (h : Tr w T S) (k : Int) (hk : I64 k) (hs : S.is k = true) (hv : S.val k = 0) (hm : S.m < 1000) (a : Option Addr) (c : Nat) (why : List Int) (hw : Ints w a c why) (ha : Apart T.F a)
    (hfw : why.length ≤ 100000) (hI : ∀ x ∈ why, I64 x) (hin : k ∈ why) (hall : ∀ x ∈ why, x ≠ k → S.val x = -1) :
    Calls Tryz.prog 35 #[.pointer (some ⟨T.bt, 0, none⟩), .int .i64 k, .slice a why.length c] w fun e w' => e = .returned (.int .i64 0) ∧ Goes w T (S.put 2 k why) w' := by
  have HK := Lib.hid hk
  have HI := Lib.hid hs
  have HM := Lib.hid hm
  have hca : why.contains k = true := by simpa using hin
  have han : why.any (fun x => x != k && S.val x != -1) = false := by
    rw [List.any_eq_false]
    intro x hx
    by_cases e : x = k
    · simp [e]
    · simp [hall x hx e]
  have HCA := Lib.hid hca
  have HAN := Lib.hid han
  clear hm hca han
  go_enter Tryz.func35, Tryz.ntmps35
  go_wp2_with fail
  obtain ⟨W, hW⟩ : ∃ W, ((w.alloc (.cells #[.pointer (some ⟨T.bt, 0, none⟩)] 33)).alloc (.cells #[.int .i64 k] 3)) = W := ⟨_, rfl⟩
  have hc0_0 : W.cell? ⟨w.heap.size, 0, none⟩ = some (.pointer (some ⟨T.bt, 0, none⟩)) := by rw [← hW]; simp [go_sem]
  have hf0 : ∀ o, W.frozen? ⟨w.heap.size, o, none⟩ = false := by intro o; rw [← hW]; simp [go_sem]
  have hz0 : w.heap.size < W.heap.size := by rw [← hW]; simp <;> omega
  have hn0 : w.heap.size ≠ W.heap.size := Nat.ne_of_lt hz0
  have hc1_0 : W.cell? ⟨w.heap.size + 1, 0, none⟩ = some (.int .i64 k) := by rw [← hW]; simp [go_sem]
  have hf1 : ∀ o, W.frozen? ⟨w.heap.size + 1, o, none⟩ = false := by intro o; rw [← hW]; simp [go_sem]
  have hz1 : w.heap.size + 1 < W.heap.size := by rw [← hW]; simp <;> omega
  have hn1 : w.heap.size + 1 ≠ W.heap.size := Nat.ne_of_lt hz1
  have hBW : Below w.heap.size w W := by rw [← hW]; exact ((Below.refl w.heap.size w).alloc (Nat.le_refl _) (.cells #[.pointer (some ⟨T.bt, 0, none⟩)] 33)).alloc (by simp; try omega) (.cells #[.int .i64 k] 3)
  rw [hW]
  clear hW
  have hTW := h.mono hBW
  have HS := is_any hTW k hk
  rw [hs] at HS
  have HS' := Lib.hid HS
  have HV := lit_any hTW k hk
  rw [hv] at HV
  have HV' := Lib.hid HV
  have HTW := Lib.hid hTW
  have HWW := Lib.hid (hw.mono hBW)
  have HII := Lib.hid hI
  have HB := Lib.hid hBW
  have HT0 := Lib.hid h
  clear HS HV hTW h hw hs hv hin hall hI hBW hk hf0 hf1
  with_reducible refine HS'.out.mono ?_
  rintro e w' ⟨v, rfl, rfl, rfl⟩
  go_wp2_with fail
  with_reducible refine HV'.out.mono ?_
  rintro e w1 ⟨v, rfl, hb, rfl⟩
  have d0 : w1.cell? ⟨w.heap.size, 0, none⟩ = some (.pointer (some ⟨T.bt, 0, none⟩)) := (hb.cell (p := ⟨w.heap.size, 0, none⟩) hz0).trans hc0_0
  have d1 : w1.cell? ⟨w.heap.size + 1, 0, none⟩ = some (.int .i64 k) := (hb.cell (p := ⟨w.heap.size + 1, 0, none⟩) hz1).trans hc1_0
  have hz0' : w.heap.size < w1.heap.size := Nat.lt_of_lt_of_le hz0 hb.size
  have hz1' : w.heap.size + 1 < w1.heap.size := Nat.lt_of_lt_of_le hz1 hb.size
  have HT1 := Lib.hid (HTW.out.mono hb)
  have HW1 := Lib.hid (HWW.out.mono hb)
  have HB1 := Lib.hid (HB.out.trans (hb.mono HB.out.size))
  clear hb hc0_0 hc1_0 hz0 hz1 hn0 hn1 HS' HV'
  go_wp2_with fail
  with_reducible refine (contains_ints w1 a c why k HW1.out hfw).mono ?_
  rintro e w' ⟨v, rfl, rfl, rfl⟩
  rw [HCA.out]
  go_wp2_with fail
  refine (containsFunc_any w1 a c why HW1.out hfw 80 #[.pointer (some ⟨w.heap.size + 1, 0, none⟩), .pointer (some ⟨w.heap.size, 0, none⟩)] (fun x => x != k && S.val x != -1) Tryz.func80 rfl (by kernel_rfl)
    (fun w2 x hx hb => force1_any (HT1.out.mono hb) w.heap.size (w.heap.size + 1) k x ((hb.cell (p := ⟨w.heap.size, 0, none⟩) hz0').trans d0) ((hb.cell (p := ⟨w.heap.size + 1, 0, none⟩) hz1').trans d1) (HII.out x hx))).mono ?_
  rintro e w4 ⟨v, rfl, hb, rfl⟩
  rw [HAN.out]
  go_wp2_with fail
  have hw0 : w4.cell? ⟨w.heap.size, 0, none⟩ = some (.pointer (some ⟨T.bt, 0, none⟩)) := (hb.cell (p := ⟨w.heap.size, 0, none⟩) hz0').trans d0
  have hw1 : w4.cell? ⟨w.heap.size + 1, 0, none⟩ = some (.int .i64 k) := (hb.cell (p := ⟨w.heap.size + 1, 0, none⟩) hz1').trans d1
  have hz0 : w.heap.size < w4.heap.size := Nat.lt_of_lt_of_le hz0' hb.size
  have hz1 : w.heap.size + 1 < w4.heap.size := Nat.lt_of_lt_of_le hz1' hb.size
  have HT4 := Lib.hid (HT1.out.mono hb)
  have hwF := HW1.out.mono hb
  have HB4 := Lib.hid (HB1.out.trans (hb.mono HB1.out.size))
  have hnF0 : ¬ T.F w.heap.size := fun e => Nat.lt_irrefl _ (HT0.out.Flt e)
  have hnF1 : ¬ T.F (w.heap.size + 1) := fun e => by have := HT0.out.Flt e; omega
  clear hb d0 d1 hz0' hz1' HT1 HW1 HB1
  refine region_start (Upd T.F w4) 6 #[false, false, false, false, false, false] (by kernel_rfl) rfl rfl (Upd.drew (Upd.refl _ _)) (fun hS => ?_)
  have hA : Below w4.heap.size w4 w4.drew := (Below.refl _ _).drew
  refine' take_run 0 5 (some 26) #[true, false, false, false, false, false] (v := _) rfl rfl rfl (by kernel_rfl) (by kernel_rfl) (by kernel_rfl) (fun _ _ _ h => h) rfl hS (fun wz hz => ?y0) ?r0
  case y0 => (have z0 := hz.cell hz0 hnF0 0; have z1 := hz.cell hz1 hnF1 0; rw [hw0] at z0; rw [hw1] at z1; go_simp; try with_reducible rfl)
  try simp only [Act.put, List.setIfInBounds_toArray, List.set_cons_zero, List.set_cons_succ]
  refine' take_run 1 4 (some 27) #[true, true, false, false, false, false] (v := _) rfl rfl rfl (by kernel_rfl) (by kernel_rfl) (by kernel_rfl) (fun _ _ _ h => h) rfl hS (fun wz hz => ?y1) ?r1
  case y1 => (have z0 := hz.cell hz0 hnF0 0; have z1 := hz.cell hz1 hnF1 0; rw [hw0] at z0; rw [hw1] at z1; go_simp; try with_reducible rfl)
  try simp only [Act.put, List.setIfInBounds_toArray, List.set_cons_zero, List.set_cons_succ]
  refine' take_run 2 3 (some 28) #[true, true, true, false, false, false] (v := _) rfl rfl rfl (by kernel_rfl) (by kernel_rfl) (by kernel_rfl) (fun _ _ _ h => h) rfl hS (fun wz hz => ?y2) ?r2
  case y2 => (go_simp; try with_reducible rfl)
  try simp only [Act.put, List.setIfInBounds_toArray, List.set_cons_zero, List.set_cons_succ]
  refine step_call 3 2 (some 29) #[true, true, true, true, false, false] 81 [.slice a why.length c] rfl rfl rfl (by kernel_rfl) rfl rfl rfl Tryz.func81 rfl (by kernel_rfl) (clone_ints _ a c why (hwF.upd' hS (fun _ => ha)) hfw) ?_
  rintro v w' hb ⟨HO, hfr⟩
  replace hS := hS.trans (Upd.of hb)
  replace hA := hA.trans (hb.mono hA.size)
  obtain ⟨a', c', rfl, HI', hnil⟩ := HO.slice
  have HT5 := HT4.out.mono hA
  refine ⟨hS, ?_⟩
  try simp only [Act.put, List.setIfInBounds_toArray, List.set_cons_zero, List.set_cons_succ]
  refine' take_run 4 1 (some 30) #[true, true, true, true, true, false] (v := _) rfl rfl rfl (by kernel_rfl) (by kernel_rfl) (by kernel_rfl) (fun _ _ _ h => h) rfl hS (fun wz hz => ?y3) ?r3
  case y3 => (go_simp; try with_reducible rfl)
  try simp only [Act.put, List.setIfInBounds_toArray, List.set_cons_zero, List.set_cons_succ]
  refine step_callG 5 0 (some 31) #[true, true, true, true, true, true] 68 [.pointer (some ⟨T.bt, 0, none⟩), .agg #[.int .i64 2, .int .i64 k, .slice a' why.length c', .int .i64 0, .int .i64 0, .bool false, .bool false, .slice none 0 0, .slice none 0 0, .int .i64 0, .int .i64 0]] rfl rfl rfl (by kernel_rfl) rfl rfl rfl Tryz.func68 rfl (by kernel_rfl) (put_any HT5 2 k why a' c' rfl HK.out HI.out HM.out HI' (apart_new HT4.out hfr)) ?_
  rintro e w' ⟨rfl, hU, ev, hT6, hev⟩
  have hG := Goes.after (Upd.of hA) (Goes.put hU hT6 hev)
  replace hS := hS.trans hU
  refine ⟨_, rfl, hS, ?_⟩
  try simp only [Act.put, List.setIfInBounds_toArray, List.set_cons_zero, List.set_cons_succ]
  refine wpAnyH_done (by kernel_rfl) ?_ _
  go_wp2_with fail
  go_ret
  exact ⟨rfl, Goes.after (Upd.of HB4.out) hG⟩
end Go.Proofs.YtodeddappmfphaaGreatDoor
