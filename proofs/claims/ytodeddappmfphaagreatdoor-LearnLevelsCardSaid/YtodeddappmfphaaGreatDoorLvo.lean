/- The trail's steps beside a row of ints of the caller's; the trail of LearnLevels. -/
import Derived.Test.YtodeddappmfphaaGreatDoorLrw
namespace Go.Proofs.YtodeddappmfphaaGreatDoor
open Go.RowKit Go.Thd

/-- The trail that a step leaves: it keeps all that it has, but for the row of entries. -/
def Goes2 (w : World) (T : TA) (S S' : St) (w' : World) : Prop := Upd T.F w w' ∧ ∃ ev a c, Tr w' (T.put S.m ev a c) S' ∧ (∀ b, ev.ownBlock = some b → T.ev.ownBlock = some b ∨ w.heap.size ≤ b) ∧ ∀ p, a = some p → w.heap.size ≤ p.block
theorem Goes2.after {w w1 w' : World} {T : TA} {S S' : St} (h : Upd T.F w w1) (h' : Goes2 w1 T S S' w') : Goes2 w T S S' w' := by
  obtain ⟨h1, ev, a, c, h2, h3, h4⟩ := h'
  exact ⟨h.trans h1, ev, a, c, h2, fun b hb => (h3 b hb).imp id (fun h' => Nat.le_trans h.size h'), fun p hp => Nat.le_trans h.size (h4 p hp)⟩

theorem decide_two {w : World} {T : TA} {S : St} (h : Tr w T S) (k : Int) (hk : I64 k) (hs : S.is k = true) (hv : S.val k = 0) (hm : S.m < 1000) (hl : S.lv < 1000) :
    Calls Tryz.prog 29 #[.pointer (some ⟨T.bt, 0, none⟩), .int .i64 k] w fun e w' => e = .returned (.int .i64 0) ∧ Goes2 w T S (S.up.put 1 k []) w' := by
  have HS := is_any h k hk
  rw [hs] at HS
  have HS' := Lib.hid HS
  have HV := lit_any h k hk
  rw [hv] at HV
  have HV' := Lib.hid HV
  have HT := Lib.hid h
  have HK := Lib.hid hk
  have HI := Lib.hid hs
  have HL := Lib.hid hl
  have HM := Lib.hid hm
  have hlv := h.lvl
  clear HS HV hs hv hl hm hk
  go_enter Tryz.func29, Tryz.ntmps29
  go_wp2_with fail
  with_reducible refine HS'.out.mono ?_
  rintro e w' ⟨v, rfl, rfl, rfl⟩
  go_wp2_with fail
  with_reducible refine HV'.out.mono ?_
  rintro e w1 ⟨v, rfl, hb, rfl⟩
  have HT1 := Lib.hid (HT.out.mono hb)
  have HB := Lib.hid hb
  obtain ⟨c1, c4, c5, c6⟩ := HT1.out.cells
  have hf6 := HT1.out.frozen 6
  clear h hb HV' HS' c1 c4 c5
  go_wp2_with fail
  have HT2 := Lib.hid (HT1.out.leveled HL.out)
  have HI2 : Hid (S.up.is k = true) := HI.out
  have HM2 : Hid (S.up.m < 1000) := HM.out
  with_reducible refine (put_nil HT2.out 1 k rfl HK.out HI2.out HM2.out).mono ?_
  rintro e w3 ⟨rfl, hU, ev, hT3, hev⟩
  go_wp2_with fail
  go_ret
  refine ⟨rfl, ?_⟩
  have hU1 : Upd T.F w1 (w1.setCell ⟨T.bt, 6, none⟩ (.int .i64 (S.lv + 1))) := Upd.set _ _ _ _ (.inl rfl)
  exact Goes2.after ((Upd.of HB.out).trans hU1) ⟨hU, ev, none, 0, hT3, hev, fun p hp => by cases hp⟩
set_option maxRecDepth 100000 in
set_option maxHeartbeats 1000000 in
theorem force_two {w : World} {T : TA} {S : St} (h : Tr w T S) (k : Int) (hk : I64 k) (hs : S.is k = true) (hv : S.val k = 0) (hm : S.m < 1000) (a : Option Addr) (c : Nat) (why : List Int) (hw : Ints w a c why) (ha : Apart T.F a)
    (hfw : why.length ≤ 100000) (hI : ∀ x ∈ why, I64 x) (hin : k ∈ why) (hall : ∀ x ∈ why, x ≠ k → S.val x = -1) :
    Calls Tryz.prog 35 #[.pointer (some ⟨T.bt, 0, none⟩), .int .i64 k, .slice a why.length c] w fun e w' => e = .returned (.int .i64 0) ∧ Goes2 w T S (S.put 2 k why) w' := by
  have HK := Lib.hid hk
  have HI := Lib.hid hs
  have HM := Lib.hid hm
  have hca : why.contains k = true := by simpa using hin
  have han : why.any (fun x => x != k && S.val x != -1) = false := by
    rw [List.any_eq_false]
    intro x hx
    by_cases e : x = k
    · simp [e]
    · simp [hall x hx e]
  have HCA := Lib.hid hca
  have HAN := Lib.hid han
  clear hm hca han
  go_enter Tryz.func35, Tryz.ntmps35
  go_wp2_with fail
  obtain ⟨W, hW⟩ : ∃ W, ((w.alloc (.cells #[.pointer (some ⟨T.bt, 0, none⟩)] 33)).alloc (.cells #[.int .i64 k] 3)) = W := ⟨_, rfl⟩
  have hc0_0 : W.cell? ⟨w.heap.size, 0, none⟩ = some (.pointer (some ⟨T.bt, 0, none⟩)) := by rw [← hW]; simp [go_sem]
  have hf0 : ∀ o, W.frozen? ⟨w.heap.size, o, none⟩ = false := by intro o; rw [← hW]; simp [go_sem]
  have hz0 : w.heap.size < W.heap.size := by rw [← hW]; simp <;> omega
  have hn0 : w.heap.size ≠ W.heap.size := Nat.ne_of_lt hz0
  have hc1_0 : W.cell? ⟨w.heap.size + 1, 0, none⟩ = some (.int .i64 k) := by rw [← hW]; simp [go_sem]
  have hf1 : ∀ o, W.frozen? ⟨w.heap.size + 1, o, none⟩ = false := by intro o; rw [← hW]; simp [go_sem]
  have hz1 : w.heap.size + 1 < W.heap.size := by rw [← hW]; simp <;> omega
  have hn1 : w.heap.size + 1 ≠ W.heap.size := Nat.ne_of_lt hz1
  have hBW : Below w.heap.size w W := by rw [← hW]; exact ((Below.refl w.heap.size w).alloc (Nat.le_refl _) (.cells #[.pointer (some ⟨T.bt, 0, none⟩)] 33)).alloc (by simp; try omega) (.cells #[.int .i64 k] 3)
  rw [hW]
  clear hW
  have hTW := h.mono hBW
  have HS := is_any hTW k hk
  rw [hs] at HS
  have HS' := Lib.hid HS
  have HV := lit_any hTW k hk
  rw [hv] at HV
  have HV' := Lib.hid HV
  have HTW := Lib.hid hTW
  have HWW := Lib.hid (hw.mono hBW)
  have HII := Lib.hid hI
  have HB := Lib.hid hBW
  have HT0 := Lib.hid h
  clear HS HV hTW h hw hs hv hin hall hI hBW hk hf0 hf1
  with_reducible refine HS'.out.mono ?_
  rintro e w' ⟨v, rfl, rfl, rfl⟩
  go_wp2_with fail
  with_reducible refine HV'.out.mono ?_
  rintro e w1 ⟨v, rfl, hb, rfl⟩
  have d0 : w1.cell? ⟨w.heap.size, 0, none⟩ = some (.pointer (some ⟨T.bt, 0, none⟩)) := (hb.cell (p := ⟨w.heap.size, 0, none⟩) hz0).trans hc0_0
  have d1 : w1.cell? ⟨w.heap.size + 1, 0, none⟩ = some (.int .i64 k) := (hb.cell (p := ⟨w.heap.size + 1, 0, none⟩) hz1).trans hc1_0
  have hz0' : w.heap.size < w1.heap.size := Nat.lt_of_lt_of_le hz0 hb.size
  have hz1' : w.heap.size + 1 < w1.heap.size := Nat.lt_of_lt_of_le hz1 hb.size
  have HT1 := Lib.hid (HTW.out.mono hb)
  have HW1 := Lib.hid (HWW.out.mono hb)
  have HB1 := Lib.hid (HB.out.trans (hb.mono HB.out.size))
  clear hb hc0_0 hc1_0 hz0 hz1 hn0 hn1 HS' HV'
  go_wp2_with fail
  with_reducible refine (contains_ints w1 a c why k HW1.out hfw).mono ?_
  rintro e w' ⟨v, rfl, rfl, rfl⟩
  rw [HCA.out]
  go_wp2_with fail
  refine (containsFunc_any w1 a c why HW1.out hfw 80 #[.pointer (some ⟨w.heap.size + 1, 0, none⟩), .pointer (some ⟨w.heap.size, 0, none⟩)] (fun x => x != k && S.val x != -1) Tryz.func80 rfl (by kernel_rfl)
    (fun w2 x hx hb => force1_any (HT1.out.mono hb) w.heap.size (w.heap.size + 1) k x ((hb.cell (p := ⟨w.heap.size, 0, none⟩) hz0').trans d0) ((hb.cell (p := ⟨w.heap.size + 1, 0, none⟩) hz1').trans d1) (HII.out x hx))).mono ?_
  rintro e w4 ⟨v, rfl, hb, rfl⟩
  rw [HAN.out]
  go_wp2_with fail
  have hw0 : w4.cell? ⟨w.heap.size, 0, none⟩ = some (.pointer (some ⟨T.bt, 0, none⟩)) := (hb.cell (p := ⟨w.heap.size, 0, none⟩) hz0').trans d0
  have hw1 : w4.cell? ⟨w.heap.size + 1, 0, none⟩ = some (.int .i64 k) := (hb.cell (p := ⟨w.heap.size + 1, 0, none⟩) hz1').trans d1
  have hz0 : w.heap.size < w4.heap.size := Nat.lt_of_lt_of_le hz0' hb.size
  have hz1 : w.heap.size + 1 < w4.heap.size := Nat.lt_of_lt_of_le hz1' hb.size
  have HT4 := Lib.hid (HT1.out.mono hb)
  have hwF := HW1.out.mono hb
  have HB4 := Lib.hid (HB1.out.trans (hb.mono HB1.out.size))
  have hnF0 : ¬ T.F w.heap.size := fun e => Nat.lt_irrefl _ (HT0.out.Flt e)
  have hnF1 : ¬ T.F (w.heap.size + 1) := fun e => by have := HT0.out.Flt e; omega
  clear hb d0 d1 hz0' hz1' HT1 HW1 HB1
  refine region_start (Upd T.F w4) 6 #[false, false, false, false, false, false] (by kernel_rfl) rfl rfl (Upd.drew (Upd.refl _ _)) (fun hS => ?_)
  have hA : Below w4.heap.size w4 w4.drew := (Below.refl _ _).drew
  refine' take_run 0 5 (some 26) #[true, false, false, false, false, false] (v := _) rfl rfl rfl (by kernel_rfl) (by kernel_rfl) (by kernel_rfl) (fun _ _ _ h => h) rfl hS (fun wz hz => ?y0) ?r0
  case y0 => (have z0 := hz.cell hz0 hnF0 0; have z1 := hz.cell hz1 hnF1 0; rw [hw0] at z0; rw [hw1] at z1; go_simp; try with_reducible rfl)
  try simp only [Act.put, List.setIfInBounds_toArray, List.set_cons_zero, List.set_cons_succ]
  refine' take_run 1 4 (some 27) #[true, true, false, false, false, false] (v := _) rfl rfl rfl (by kernel_rfl) (by kernel_rfl) (by kernel_rfl) (fun _ _ _ h => h) rfl hS (fun wz hz => ?y1) ?r1
  case y1 => (have z0 := hz.cell hz0 hnF0 0; have z1 := hz.cell hz1 hnF1 0; rw [hw0] at z0; rw [hw1] at z1; go_simp; try with_reducible rfl)
  try simp only [Act.put, List.setIfInBounds_toArray, List.set_cons_zero, List.set_cons_succ]
  refine' take_run 2 3 (some 28) #[true, true, true, false, false, false] (v := _) rfl rfl rfl (by kernel_rfl) (by kernel_rfl) (by kernel_rfl) (fun _ _ _ h => h) rfl hS (fun wz hz => ?y2) ?r2
  case y2 => (go_simp; try with_reducible rfl)
  try simp only [Act.put, List.setIfInBounds_toArray, List.set_cons_zero, List.set_cons_succ]
  refine step_call 3 2 (some 29) #[true, true, true, true, false, false] 81 [.slice a why.length c] rfl rfl rfl (by kernel_rfl) rfl rfl rfl Tryz.func81 rfl (by kernel_rfl) (clone_ints _ a c why (hwF.upd' hS (fun _ => ha)) hfw) ?_
  rintro v w' hb ⟨HO, hfr⟩
  replace hS := hS.trans (Upd.of hb)
  replace hA := hA.trans (hb.mono hA.size)
  obtain ⟨a', c', rfl, HI', hnil⟩ := HO.slice
  have HT5 := HT4.out.mono hA
  refine ⟨hS, ?_⟩
  try simp only [Act.put, List.setIfInBounds_toArray, List.set_cons_zero, List.set_cons_succ]
  refine' take_run 4 1 (some 30) #[true, true, true, true, true, false] (v := _) rfl rfl rfl (by kernel_rfl) (by kernel_rfl) (by kernel_rfl) (fun _ _ _ h => h) rfl hS (fun wz hz => ?y3) ?r3
  case y3 => (go_simp; try with_reducible rfl)
  try simp only [Act.put, List.setIfInBounds_toArray, List.set_cons_zero, List.set_cons_succ]
  refine step_callG 5 0 (some 31) #[true, true, true, true, true, true] 68 [.pointer (some ⟨T.bt, 0, none⟩), .agg #[.int .i64 2, .int .i64 k, .slice a' why.length c', .int .i64 0, .int .i64 0, .bool false, .bool false, .slice none 0 0, .slice none 0 0, .int .i64 0, .int .i64 0]] rfl rfl rfl (by kernel_rfl) rfl rfl rfl Tryz.func68 rfl (by kernel_rfl) (put_any HT5 2 k why a' c' rfl HK.out HI.out HM.out HI' (apart_new HT4.out hfr)) ?_
  rintro e w' ⟨rfl, hU, ev, hT6, hev⟩
  have hG : Goes2 w4 T S (S.put 2 k why) w' := ⟨(Upd.of hA).trans hU, ev, a', c', hT6, fun b hb => (hev b hb).imp id (fun h' => Nat.le_trans hA.size h'), fun p hp => by
    subst hp
    exact hfr p.block rfl⟩
  replace hS := hS.trans hU
  refine ⟨_, rfl, hS, ?_⟩
  try simp only [Act.put, List.setIfInBounds_toArray, List.set_cons_zero, List.set_cons_succ]
  refine wpAnyH_done (by kernel_rfl) ?_ _
  go_wp2_with fail
  go_ret
  exact ⟨rfl, Goes2.after (Upd.of HB4.out) hG⟩

/-- Apart from all that a trail reads. -/
def Off (T : TA) (S : St) (b : Nat) : Prop := ¬ T.F b ∧ b ≠ T.mv ∧ (∀ i, i < S.n → b ≠ T.vb i) ∧ ∀ i, i < S.m → (S.e i).why ≠ [] → ∀ p, T.wa i = some p → b ≠ p.block
theorem Off.new {w : World} {T : TA} {S : St} (h : Tr w T S) {b : Nat} (hb : w.heap.size ≤ b) : Off T S b := by
  refine ⟨fun hF => ?_, fun e => ?_, fun i hi e => ?_, fun i hi hne p hp e => ?_⟩
  · have := h.Flt hF; omega
  · have := h.vals.lt; omega
  · have := (h.vars i hi).2.2.2.2; omega
  · have := (h.whys i hi).1.lt hne p hp; omega
/-- A trail, and a row of ints of the caller's beside it. -/
structure TrO (B : Nat) (w0 w : World) (T : TA) (S : St) (bt : Nat) (v : Value) (l : List Int) : Prop where
  tr : TrB B w0 w T S
  bt : T.bt = bt
  row : OwnI w v l
  ge : ∀ b, v.ownBlock = some b → B ≤ b
  off : ∀ b, v.ownBlock = some b → Off T S b
theorem TrO.mono {B : Nat} {w0 w w' : World} {T : TA} {S : St} {bt : Nat} {v : Value} {l : List Int} (h : TrO B w0 w T S bt v l) (hb : Below w.heap.size w w') : TrO B w0 w' T S bt v l :=
  ⟨h.tr.mono hb, h.bt, h.row.mono hb, h.ge, h.off⟩
theorem TrO.goes {B : Nat} {w0 w w' : World} {T : TA} {S S' : St} {bt : Nat} {v : Value} {l : List Int} (h : TrO B w0 w T S bt v l) (hg : Goes2 w T S S' w') (hn : S'.n = S.n) (hm : S'.m = S.m + 1) (he : ∀ i, i < S.m → S'.e i = S.e i) : ∃ T', TrO B w0 w' T' S' bt v l := by
  obtain ⟨hU, ev, a, c, hT, hev, ha⟩ := hg
  have hvlt : ∀ b, v.ownBlock = some b → b < w.heap.size := fun b hb => (World.ownsRow.lt h.row b hb).2
  have hF : ∀ k, (T.put S.m ev a c).F k → T.F k ∨ w.heap.size ≤ k := by
    rintro k (h1 | h1 | h1)
    · exact .inl (.inl h1)
    · exact .inl (.inr (.inl h1))
    · rcases hev k h1 with h2 | h2
      · exact .inl (.inr (.inr h2))
      · exact .inr h2
  refine ⟨T.put S.m ev a c, ⟨hT, fun j hj => ?_, h.tr.below.trans (hU.below (fun k hk hk' => by have := h.tr.own k hk'; omega) h.tr.size), Nat.le_trans h.tr.size hU.size⟩, h.bt, h.row.upd hU (fun b hb => (h.off b hb).1), h.ge, fun b hb => ?_⟩
  · rcases hF j hj with h1 | h1
    · exact h.tr.own j h1
    · exact Nat.le_trans h.tr.size h1
  · obtain ⟨o1, o2, o3, o4⟩ := h.off b hb
    have hlt := hvlt b hb
    refine ⟨fun e => ?_, o2, fun i hi => o3 i (by rw [← hn]; exact hi), fun i hi hne p hp => ?_⟩
    · rcases hF b e with h1 | h1
      · exact o1 h1
      · omega
    · rw [hm] at hi
      have hp' : (if i = S.m then a else T.wa i) = some p := hp
      by_cases hi2 : i = S.m
      · rw [if_pos hi2] at hp'
        have := ha p hp'
        omega
      · rw [if_neg hi2] at hp'
        rw [he i (by omega)] at hne
        exact o4 i (by omega) hne p hp'
theorem TrO.congr {B : Nat} {w0 w : World} {T : TA} {S S' : St} {bt : Nat} {v : Value} {l : List Int} (h : TrO B w0 w T S bt v l) (hn : S'.n = S.n) (hm : S'.m = S.m) (hl : S'.lv = S.lv) (hA : ∀ i, i < S.n → S'.A i = S.A i) (he : ∀ i, i < S.m → S'.e i = S.e i) (hent : ∀ i, i < S.n → S'.ent i = S.ent i) : TrO B w0 w T S' bt v l :=
  ⟨h.tr.congr hn hm hl hA he hent, h.bt, h.row, h.ge, fun b hb => by
    obtain ⟨o1, o2, o3, o4⟩ := h.off b hb
    refine ⟨o1, o2, fun i hi => o3 i (by rw [← hn]; exact hi), fun i hi hne p hp => ?_⟩
    rw [hm] at hi
    rw [he i hi] at hne
    exact o4 i hi hne p hp⟩
theorem TrO.append {B : Nat} {w0 w : World} {T : TA} {S : St} {bt : Nat} {v : Value} {l : List Int} (h : TrO B w0 w T S bt v l) (x : Int) (hl : l.length < 100000) :
    ∃ v' w', (Builtin.append_ #[29, 29] 29 #[v, .slice (some ⟨w.heap.size, 0, none⟩) 1 1]).run Tryz.prog (w.alloc (.cells #[.int .i64 x] 3)) = .ok v' w' ∧ TrO B w0 w' T S bt v' (l ++ [x]) := by
  obtain ⟨v', w', hrun, hO, hU, hfr⟩ := append_int h.row x hl
  refine ⟨v', w', hrun, ⟨⟨h.tr.tr.upd hU (fun k hk => h.off k hk), h.tr.own, h.tr.below.trans (hU.below (fun k hk hk' => by have := h.ge k hk'; omega) h.tr.size), Nat.le_trans h.tr.size hU.size⟩, h.bt, hO, fun b hb => ?_, fun b hb => ?_⟩⟩
  · rcases hfr b hb with h1 | h1
    · exact h.ge b h1
    · exact Nat.le_trans h.tr.size h1
  · rcases hfr b hb with h1 | h1
    · exact h.off b h1
    · exact Off.new h.tr.tr h1
theorem TrB.beside {B : Nat} {w0 w : World} {T : TA} {S : St} (h : TrB B w0 w T S) : TrO B w0 w T S T.bt (.slice none 0 0) [] :=
  ⟨h, rfl, OwnI.nil _, fun b hb => by simp [Value.ownBlock] at hb, fun b hb => by simp [Value.ownBlock] at hb⟩
theorem decide_O {B : Nat} {w0 w : World} {T : TA} {S : St} {bt : Nat} {v : Value} {l : List Int} (h : TrO B w0 w T S bt v l) (k : Int) (hk : I64 k) (hs : S.is k = true) (hv : S.val k = 0) (hm : S.m < 1000) (hl : S.lv < 1000) :
    Calls Tryz.prog 29 #[.pointer (some ⟨bt, 0, none⟩), .int .i64 k] w fun e w' => e = .returned (.int .i64 0) ∧ ∃ T', TrO B w0 w' T' (S.up.put 1 k []) bt v l := by
  obtain rfl := h.bt
  exact (decide_two h.tr.tr k hk hs hv hm hl).mono fun e w' ⟨he, hg⟩ => ⟨he, h.goes hg rfl rfl (fun i hi => by
    show (if i = S.m then _ else S.e i) = S.e i
    rw [if_neg (by omega)])⟩
theorem force_O {B : Nat} {w0 w : World} {T : TA} {S : St} {bt : Nat} {v : Value} {l : List Int} (h : TrO B w0 w T S bt v l) (k : Int) (hk : I64 k) (hs : S.is k = true) (hv : S.val k = 0) (hm : S.m < 1000) (a : Option Addr) (n c : Nat) (why : List Int) (hn : n = why.length) (hw : Ints w a c why) (ha : Apart T.F a)
    (hfw : why.length ≤ 100000) (hI : ∀ x ∈ why, I64 x) (hin : k ∈ why) (hall : ∀ x ∈ why, x ≠ k → S.val x = -1) :
    Calls Tryz.prog 35 #[.pointer (some ⟨bt, 0, none⟩), .int .i64 k, .slice a n c] w fun e w' => e = .returned (.int .i64 0) ∧ ∃ T', TrO B w0 w' T' (S.put 2 k why) bt v l := by
  obtain rfl := h.bt
  subst hn
  exact (force_two h.tr.tr k hk hs hv hm a c why hw ha hfw hI hin hall).mono fun e w' ⟨he, hg⟩ => ⟨he, h.goes hg rfl rfl (fun i hi => by
    show (if i = S.m then _ else S.e i) = S.e i
    rw [if_neg (by omega)])⟩

/-- LearnLevels: is entry j decided? its level; the trail of i entries. -/
def dc (K : Nat → Bool) (j : Nat) : Bool := K j || j == 0
def Lv (K : Nat → Bool) : Nat → Nat
  | 0 => 0
  | j + 1 => Lv K j + if dc K j then 1 else 0
theorem Lv_le (K : Nat → Bool) : ∀ j, Lv K j ≤ j
  | 0 => Nat.le_refl _
  | j + 1 => by
    have := Lv_le K j
    unfold Lv
    split <;> omega
theorem Lv_dec {K : Nat → Bool} {j : Nat} (h : dc K j = true) : Lv K (j + 1) = Lv K j + 1 := by rw [Lv, if_pos h]
theorem Lv_for {K : Nat → Bool} {j : Nat} (h : dc K j = false) : Lv K (j + 1) = Lv K j := by rw [Lv, h]; rfl
def SL (K : Nat → Bool) (n i : Nat) : St where
  n := n + 1
  A := fun j => (j : Nat)
  m := i
  e := fun j => if dc K j then ⟨1, ((j + 1 : Nat) : Int), [], ((Lv K (j + 1) : Nat) : Int)⟩ else ⟨2, ((j + 1 : Nat) : Int), [((j + 1 : Nat) : Int), -((j : Nat) : Int)], ((Lv K (j + 1) : Nat) : Int)⟩
  ent := fun x => if x < i then x + 1 else 0
  lv := ((Lv K i : Nat) : Int)
theorem SL_start {B : Nat} {w0 w : World} {T : TA} {bt : Nat} {v : Value} {l : List Int} (K : Nat → Bool) (n : Nat) (h : TrO B w0 w T (S0 (n + 1) (fun j => j + 0)) bt v l) : TrO B w0 w T (SL K n 0) bt v l :=
  h.congr rfl rfl rfl (fun _ _ => rfl) (fun i hi => absurd hi (by show ¬ i < 0; omega)) (fun i _ => by
    show (if i < 0 then i + 1 else 0) = 0
    rw [if_neg (by omega)])
theorem SL_ent1 {n i x : Nat} {K : Nat → Bool} (h : x < i) : (SL K n i).ent x = x + 1 := if_pos h
theorem SL_ent0 {n i x : Nat} {K : Nat → Bool} (h : ¬ x < i) : (SL K n i).ent x = 0 := if_neg h
theorem SL_lev {n i j : Nat} {K : Nat → Bool} : ((SL K n i).e j).lev = ((Lv K (j + 1) : Nat) : Int) := by
  show (if dc K j then (⟨1, ((j + 1 : Nat) : Int), [], ((Lv K (j + 1) : Nat) : Int)⟩ : En) else _).lev = _
  split <;> rfl
theorem SL_lit {n i j : Nat} {K : Nat → Bool} : ((SL K n i).e j).lit = ((j + 1 : Nat) : Int) := by
  show (if dc K j then (⟨1, ((j + 1 : Nat) : Int), [], ((Lv K (j + 1) : Nat) : Int)⟩ : En) else _).lit = _
  split <;> rfl
theorem SL_why {n i j : Nat} {K : Nat → Bool} : ((SL K n i).e j).why.length ≤ 100000 := by
  show (if dc K j then (⟨1, ((j + 1 : Nat) : Int), [], ((Lv K (j + 1) : Nat) : Int)⟩ : En) else _).why.length ≤ 100000
  split <;> simp
theorem SL_ents {n i : Nat} {K : Nat → Bool} {k : Int} (hk : k.natAbs = i + 1) : ∀ x, (SL K n (i + 1)).ent x = if x = k.natAbs - 1 then i + 1 else (SL K n i).ent x := fun x => by
  show (if x < i + 1 then x + 1 else 0) = if x = k.natAbs - 1 then i + 1 else if x < i then x + 1 else 0
  rw [hk, Nat.add_sub_cancel]
  by_cases h : x = i
  · subst h; simp
  · rw [if_neg h]
    by_cases h2 : x < i
    · rw [if_pos h2, if_pos (by omega)]
    · rw [if_neg h2, if_neg (by omega)]
theorem SL_dec {B : Nat} {w0 w : World} {T : TA} {bt : Nat} {v : Value} {l : List Int} {K : Nat → Bool} {n i : Nat} {k : Int} (hd : dc K i = true) (hk : k = ((i + 1 : Nat) : Int)) (h : TrO B w0 w T ((SL K n i).up.put 1 k []) bt v l) : TrO B w0 w T (SL K n (i + 1)) bt v l := by
  subst hk
  refine h.congr rfl rfl ?_ (fun _ _ => rfl) (fun j hj => ?_) (fun x _ => SL_ents (by omega) x)
  · show ((Lv K (i + 1) : Nat) : Int) = ((Lv K i : Nat) : Int) + 1
    rw [Lv_dec hd]; rfl
  · show (SL K n i).e j = if j = i then ⟨1, ((i + 1 : Nat) : Int), [], ((Lv K i : Nat) : Int) + 1⟩ else (SL K n i).e j
    by_cases h2 : j = i
    · subst h2
      rw [if_pos rfl]
      show (if dc K j then (⟨1, ((j + 1 : Nat) : Int), [], ((Lv K (j + 1) : Nat) : Int)⟩ : En) else _) = _
      rw [if_pos hd, Lv_dec hd]; rfl
    · rw [if_neg h2]
theorem SL_for {B : Nat} {w0 w : World} {T : TA} {bt : Nat} {v : Value} {l : List Int} {K : Nat → Bool} {n i : Nat} {k y : Int} (hd : dc K i = false) (hk : k = ((i + 1 : Nat) : Int)) (hy : y = -((i : Nat) : Int)) (h : TrO B w0 w T ((SL K n i).put 2 k [k, y]) bt v l) : TrO B w0 w T (SL K n (i + 1)) bt v l := by
  subst hk; subst hy
  refine h.congr rfl rfl ?_ (fun _ _ => rfl) (fun j hj => ?_) (fun x _ => SL_ents (by omega) x)
  · show ((Lv K (i + 1) : Nat) : Int) = ((Lv K i : Nat) : Int)
    rw [Lv_for hd]
  · show (SL K n i).e j = if j = i then ⟨2, ((i + 1 : Nat) : Int), [((i + 1 : Nat) : Int), -((i : Nat) : Int)], ((Lv K i : Nat) : Int)⟩ else (SL K n i).e j
    by_cases h2 : j = i
    · subst h2
      rw [if_pos rfl]
      show (if dc K j then (⟨1, ((j + 1 : Nat) : Int), [], ((Lv K (j + 1) : Nat) : Int)⟩ : En) else _) = _
      rw [hd, Lv_for hd]; rfl
    · rw [if_neg h2]
theorem SL_free {n i : Nat} {K : Nat → Bool} {k : Int} (hk : i < k.natAbs) : (SL K n i).val k = 0 := val_zero (SL_ent0 (by omega))
theorem SL_has {n i : Nat} {K : Nat → Bool} {k : Int} (h0 : 1 ≤ k.natAbs) (h1 : k.natAbs ≤ i) (h2 : i ≤ n + 1) : (SL K n i).val k = if k < 0 then -1 else 1 :=
  val_of (j := k.natAbs - 1) (is_of (by omega) (by show _ ≤ n + 1; omega)) (SL_ent1 (by omega)) (by rw [SL_lit]; omega)
theorem SL_level {n i : Nat} {K : Nat → Bool} {k : Int} (h0 : 1 ≤ k.natAbs) (h1 : k.natAbs ≤ i) (h2 : i ≤ n + 1) : (SL K n i).level k = ((Lv K k.natAbs : Nat) : Int) := by
  unfold St.level
  rw [if_neg (by rw [SL_has h0 h1 h2]; split <;> decide), SL_ent1 (by omega), SL_lev]
  rw [show k.natAbs - 1 + 1 - 1 + 1 = k.natAbs from by omega]
theorem SL_nolevel {n i : Nat} {K : Nat → Bool} {k : Int} (h1 : i < k.natAbs) : (SL K n i).level k = -1 := by
  unfold St.level
  rw [if_pos (SL_free h1)]
end Go.Proofs.YtodeddappmfphaaGreatDoor
