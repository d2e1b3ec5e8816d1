/- cnf.atoms, clauses, made, Check. -/
import Derived.Test.YtodeddappmfphaaGreatDoorChk
import Derived.Test.YtodeddappmfphaaGreatDoorRfb
import Derived.StringKeys
namespace Go.Thd
open Go.RowKit
/-- An atom's key, as bytes. -/
def keyL (A : Nat) : List UInt8 := [54, 32] ++ Lib.decDigits A ++ [32, 48, 32]
theorem digits_inj {a b : Nat} (ha : a < 100) (hb : b < 100) (h : Lib.decDigits a = Lib.decDigits b) : a = b := by
  have inj : ∀ {x y : Nat}, x < 256 → y < 256 → UInt8.ofNat x = UInt8.ofNat y → x = y := fun hx hy h => by
    have := congrArg UInt8.toNat h
    simp at this
    omega
  by_cases h1 : a < 10
  · by_cases h2 : b < 10
    · rw [Lib.decDigits_one h1, Lib.decDigits_one h2] at h
      have := inj (by omega) (by omega) (List.cons.inj h).1
      omega
    · rw [Lib.decDigits_one h1, Lib.decDigits_two h2 hb] at h
      cases (List.cons.inj h).2
  · by_cases h2 : b < 10
    · rw [Lib.decDigits_two h1 ha, Lib.decDigits_one h2] at h
      cases (List.cons.inj h).2
    · rw [Lib.decDigits_two h1 ha, Lib.decDigits_two h2 hb] at h
      have e1 := inj (by omega) (by omega) (List.cons.inj h).1
      have e2 := inj (by omega) (by omega) (List.cons.inj (List.cons.inj h).2).1
      omega
theorem keyL_inj {a b : Nat} (ha : a < 100) (hb : b < 100) (h : keyL a = keyL b) : a = b := by
  unfold keyL at h
  exact digits_inj ha hb (List.append_cancel_left (List.append_cancel_right h))
/-- The keys that were met. -/
def metF (A : Nat → Nat) (k : Nat) : List UInt8 → Option Value := fun s => if (List.range k).any (fun j => keyL (A j) == s) then some (.bool true) else none
theorem metF_zero (A : Nat → Nat) : onS (metF A 0) = fun _ => none := by
  rw [← onS_none]; congr 1
theorem metF_new {A : Nat → Nat} {k : Nat} (hA : ∀ j, j ≤ k → A j < 100) (hd : ∀ j, j < k → A j ≠ A k) : metF A k (keyL (A k)) = none := by
  unfold metF
  rw [if_neg]
  intro h
  obtain ⟨j, hj, he⟩ := List.any_eq_true.1 h
  have hj' : j < k := by simpa using hj
  exact hd j hj' (keyL_inj (hA j (by omega)) (hA k (Nat.le_refl _)) (by simpa using he))
theorem metF_succ (A : Nat → Nat) (k : Nat) : putK (onS (metF A k)) (.string (keyL (A k))) (some (.bool true)) = onS (metF A (k + 1)) := by
  rw [putK_onS]
  congr 1
  funext x
  simp only [metF, List.range_succ, List.any_append, List.any_cons, List.any_nil, Bool.or_false]
  by_cases h : x = keyL (A k)
  · subst h; simp
  · rw [if_neg h, show (keyL (A k) == x) = false from by rw [beq_eq_false_iff_ne]; exact fun e => h e.symm, Bool.or_false]
/-- Atoms in a row, each of which speaks of a Bool. -/
def AtomsAt (W : World) (b off n : Nat) (A : Nat → Nat) : Prop := ∀ j, j < n →
  W.cell? ⟨b, off + j * 7, none⟩ = some (.int .i64 6) ∧ W.cell? ⟨b, off + j * 7 + 1, none⟩ = some (.slice none 0 0) ∧ W.cell? ⟨b, off + j * 7 + 2, none⟩ = some (.bool false) ∧ W.cell? ⟨b, off + j * 7 + 3, none⟩ = some (.slice none 0 0) ∧
  W.cell? ⟨b, off + j * 7 + 4, none⟩ = some (.slice none 0 0) ∧ W.cell? ⟨b, off + j * 7 + 5, none⟩ = some (.int .i64 (A j : Nat)) ∧ W.cell? ⟨b, off + j * 7 + 6, none⟩ = some (.int .i64 0)
theorem AtomsAt.below {n₀ : Nat} {X Y : World} (h : Below n₀ X Y) {b off n : Nat} (hb : b < n₀) {A : Nat → Nat} (hv : AtomsAt X b off n A) : AtomsAt Y b off n A := fun j hj => by
  obtain ⟨h0, h1, h2, h3, h4, h5, h6⟩ := hv j hj
  exact ⟨(h.cell (p := ⟨b, _, none⟩) hb).trans h0, (h.cell (p := ⟨b, _, none⟩) hb).trans h1, (h.cell (p := ⟨b, _, none⟩) hb).trans h2, (h.cell (p := ⟨b, _, none⟩) hb).trans h3, (h.cell (p := ⟨b, _, none⟩) hb).trans h4, (h.cell (p := ⟨b, _, none⟩) hb).trans h5, (h.cell (p := ⟨b, _, none⟩) hb).trans h6⟩
end Go.Thd
namespace Go.Proofs.YtodeddappmfphaaGreatDoor
open Go.RowKit Go.Thd

def keyT (A : Nat) : ByteArray := ⟨(keyL A).toArray⟩
theorem keyT_eq (A : Nat) : keyS A ++ ⟨#[32]⟩ ++ ⟨#[]⟩ = keyT A := by
  unfold keyT keyL keyS
  apply ByteArray.ext
  simp [ByteArray.data_append]
theorem key_any (w : World) (A : Nat) (hA : A < 100) : Calls Tryz.prog 64 #[.agg #[.int .i64 6, .slice none 0 0, .bool false, .slice none 0 0, .slice none 0 0, .int .i64 (A : Nat), .int .i64 0]] w (Ret w fun v _ => v = .string (keyT A)) := by
  have := key_holds w A hA
  rw [keyT_eq] at this
  exact this
theorem key_of (A : Nat) (hA : A < 100) : keyOf Tryz.prog 9 (.string (keyT A)) = some (.string (keyL A)) :=
  Go.WideMaps.keyOf_string_mk Tryz.underlying9 (by
    have := dd_len A hA
    show (keyL A).toArray.size ≤ _
    simp [keyL, maxLen]
    omega)

set_option maxRecDepth 100000 in
set_option maxHeartbeats 1000000 in
theorem atoms_ok (w : World) (b off cap n : Nat) (A : Nat → Nat) (hn : n ≤ 4000) (hb : b < w.heap.size) (hI : AtomsAt w b off n A) (hA : ∀ j, j < n → A j < 100) (hd : ∀ j k, j < k → k < n → A j ≠ A k)
    (bm nm : Nat) (f : Int → Option Value) (hM : MapV w Tryz.prog 3 bm nm (onI f)) (hf : ∀ j, j < n → f (A j) = some (.int .i64 0)) :
    Calls Tryz.prog 92 #[.slice (some ⟨b, off, none⟩) n cap, .map (some bm)] w (Ret w fun v _ => v = .bool true) := by
  have hmm := @run_makeMap Tryz.prog
  have HI := Lib.hid hI
  have HA := Lib.hid hA
  have HD := Lib.hid hd
  have HM := Lib.hid hM
  have HF := Lib.hid hf
  clear hI hA hd hM hf
  go_enter Tryz.func92, Tryz.ntmps92
  go_wp2_with fail
  clear hmm
  go_loopw [11] (fun v wr => ∃ k : Nat, k ≤ n ∧ v = .int .i64 (k : Int) ∧ Below w.heap.size w wr ∧ MapV wr Tryz.prog 9 w.heap.size k (onS (metF A k))) (fun v _ => (n - intOf v).toNat)
  case atStart => exact ⟨0, Nat.zero_le _, rfl, (Below.refl _ _).alloc (Nat.le_refl _) _, by rw [metF_zero]; exact MapV.made w Tryz.prog 9⟩
  case round =>
    obtain ⟨k, hk, rfl, hB, hMet⟩ := hrel
    have HB := Lib.hid hB
    have HMET := Lib.hid hMet
    clear hB hMet
    by_cases h0 : k = n
    · subst h0
      have hle : decide ((k : Int) ≤ 4000) = true := by simp; omega
      go_wp2_with fail
      go_ret
      exact ⟨_, rfl, HB.out, rfl⟩
    · have hk1 : k < n := by omega
      obtain ⟨c0, c1, c2, c3, c4, c5, c6⟩ := (HI.out.below HB.out hb) k hk1
      have hAk := HA.out k hk1
      have hfk := HF.out k hk1
      have HNEW := Lib.hid (metF_new (A := A) (k := k) (fun j hj => HA.out j (by omega)) (fun j hj => HD.out j k hj hk1))
      have HSUC := Lib.hid (metF_succ A k)
      have HFK := Lib.hid hfk
      generalize A k = x at *
      clear hfk
      go_wp2_with fail
      obtain ⟨W, hW⟩ : ∃ W, wr.alloc (.cells #[.int .i64 6, .slice none 0 0, .bool false, .slice none 0 0, .slice none 0 0, .int .i64 (x : Nat), .int .i64 0] 51) = W := ⟨_, rfl⟩
      have hR : Res W wr.heap.size [.int .i64 6, .slice none 0 0, .bool false, .slice none 0 0, .slice none 0 0, .int .i64 (x : Nat), .int .i64 0] := by rw [← hW]; exact Res.made wr [.int .i64 6, .slice none 0 0, .bool false, .slice none 0 0, .slice none 0 0, .int .i64 (x : Nat), .int .i64 0] _
      have hBW : Below wr.heap.size wr W := by rw [← hW]; exact (Below.refl _ _).alloc (Nat.le_refl _) _
      rw [hW]
      clear hW c0 c1 c2 c3 c4 c5 c6
      have HR := Lib.hid hR
      have HBW := Lib.hid hBW
      clear hR hBW
      refine (valid_holds _ _ (by omega)).mono ?_
      rintro e w1 ⟨v, rfl, hb1, rfl⟩
      have HB1 := Lib.hid (HBW.out.trans (hb1.mono HBW.out.size))
      have HR1 := Lib.hid (HR.out.mono hb1)
      clear hb1
      have d0 := HR1.out.2.1 0 _ rfl
      have d1 := HR1.out.2.1 1 _ rfl
      have d2 := HR1.out.2.1 2 _ rfl
      have d3 := HR1.out.2.1 3 _ rfl
      have d4 := HR1.out.2.1 4 _ rfl
      have d5 := HR1.out.2.1 5 _ rfl
      have d6 := HR1.out.2.1 6 _ rfl
      go_wp2_with fail
      refine (speaks_ok _ (x : Nat) (by unfold I64; omega) bm nm f (((HM.out.mono HB.out).mono HB1.out)) HFK.out).mono ?_
      rintro e w2 ⟨v, rfl, hb1, rfl⟩
      have HB2 := Lib.hid (HB1.out.trans (hb1.mono HB1.out.size))
      have HR2 := Lib.hid (HR1.out.mono hb1)
      clear hb1 d0 d1 d2 d3 d4 d5 d6
      have d0 := HR2.out.2.1 0 _ rfl
      have d1 := HR2.out.2.1 1 _ rfl
      have d2 := HR2.out.2.1 2 _ rfl
      have d3 := HR2.out.2.1 3 _ rfl
      have d4 := HR2.out.2.1 4 _ rfl
      have d5 := HR2.out.2.1 5 _ rfl
      have d6 := HR2.out.2.1 6 _ rfl
      go_wp2_with fail
      refine (key_any _ x hAk).mono ?_
      rintro e w3 ⟨v, rfl, hb1, rfl⟩
      have HB3 := Lib.hid (HB2.out.trans (hb1.mono HB2.out.size))
      have HR3 := Lib.hid (HR2.out.mono hb1)
      clear hb1 d0 d1 d2 d3 d4 d5 d6
      have d0 := HR3.out.2.1 0 _ rfl
      have d1 := HR3.out.2.1 1 _ rfl
      have d2 := HR3.out.2.1 2 _ rfl
      have d3 := HR3.out.2.1 3 _ rfl
      have d4 := HR3.out.2.1 4 _ rfl
      have d5 := HR3.out.2.1 5 _ rfl
      have d6 := HR3.out.2.1 6 _ rfl
      have hM3 := HMET.out.mono HB3.out
      have r1 := hM3.look (t := 197) (Maps.string_keyed Tryz.underlying9) Tryz.underlying197 (Tryz.zeroValue4 _) (key_of x hAk)
      have r2 : onS (metF A k) (.string (keyL x)) = none := HNEW.out
      rw [r2] at r1
      have r1' : (Instr.lookup 197 (.map (some w.heap.size)) (.string (keyT x)) false).run Tryz.prog w3 = .ok (.bool false) w3 := r1
      clear r1 r2 hM3
      go_wp2_with fail
      refine (key_any _ x hAk).mono ?_
      rintro e w4 ⟨v, rfl, hb1, rfl⟩
      have HB4 := Lib.hid (HB.out.trans ((HB3.out.trans (hb1.mono HB3.out.size)).mono HB.out.size))
      have HM4 := Lib.hid (HMET.out.mono (HB3.out.trans (hb1.mono HB3.out.size)))
      clear hb1 d0 d1 d2 d3 d4 d5 d6 r1'
      go_wp2_with (first | (at_mapUpdate; refine wpList_storeV rfl _ _ _ 197 rfl 9 4 (Maps.string_keyed Tryz.underlying9) Tryz.underlying197 w.heap.size k _ rfl HM4.out (by unfold maxLen; omega) _ (.bool true) _ rfl rfl (key_of x hAk) ?_; intro w5 hM5 hU5) | fail)
      have HB5 := Lib.hid (HB4.out.trans (hU5.below (fun j hj hF => by omega) HB4.out.size))
      have HM5 : Hid (MapV w5 Tryz.prog 9 w.heap.size (k + 1) (onS (metF A (k + 1)))) := by
        rw [HSUC.out] at hM5
        exact hM5
      clear hM5 hU5
      go_roundw
      case rel => exact ⟨k + 1, by omega, by go_num, HB5.out, HM5.out⟩
      case measure => simp [intOf]; omega

theorem clauses_nil (w : World) (n : Int) : Calls Tryz.prog 93 #[.slice none 0 0, .int .i64 n] w (Ret w fun v _ => v = .bool true) := by
  go_enter Tryz.func93, Tryz.ntmps93
  go_wp2_with fail
  refine wp_loop_rounds 1 ?_
  rw [rounds_succ]
  go_wp2_with fail
  go_ret
  exact ⟨_, rfl, (Below.refl _ _).alloc (Nat.le_refl _) _, rfl⟩

set_option maxRecDepth 100000 in
theorem made_nil (w : World) (m : Value) (hm : ∃ b, m = .map b) : Calls Tryz.prog 94 #[.slice none 0 0, m] w (Ret w fun v _ => v = .bool true) := by
  have hmm := @run_makeMap Tryz.prog
  obtain ⟨b, rfl⟩ := hm
  go_enter Tryz.func94, Tryz.ntmps94
  go_wp2_with fail
  refine wp_loop_rounds 1 ?_
  rw [rounds_succ]
  go_wp2_with fail
  go_ret
  exact ⟨_, rfl, ((Below.refl _ _).alloc (Nat.le_refl _) _).alloc (by simp) _, rfl⟩

/-- A problem of Bools and of atoms that speak of one each. -/
structure Prob (w : World) (bv cv ba ca : Nat) (zs : List I6) (n : Nat) (A : Nat → Nat) : Prop where
  vlt : bv < w.heap.size
  vars : VarsAt w bv 0 zs
  alt : ba < w.heap.size
  atoms : AtomsAt w ba 0 n A
  few : n ≤ 4000
  fewV : zs.length ≤ 100000
  pos : ∀ j, j < zs.length → 0 ≤ (zs[j]?.getD i0).1
  inc : ∀ j, j + 1 < zs.length → (zs[j]?.getD i0).1 < (zs[j + 1]?.getD i0).1
  small : ∀ j, j < n → A j < 100
  diff : ∀ j k, j < k → k < n → A j ≠ A k
  speak : ∀ j, j < n → srtF (upto (bk zs) zs.length) (A j) = some (.int .i64 0)
theorem Prob.mono {w w' : World} {bv cv ba ca : Nat} {zs : List I6} {n : Nat} {A : Nat → Nat} (h : Prob w bv cv ba ca zs n A) (hb : Below w.heap.size w w') : Prob w' bv cv ba ca zs n A where
  vlt := Nat.lt_of_lt_of_le h.vlt hb.size
  vars := h.vars.below hb h.vlt
  alt := Nat.lt_of_lt_of_le h.alt hb.size
  atoms := h.atoms.below hb h.alt
  few := h.few
  fewV := h.fewV
  pos := h.pos
  inc := h.inc
  small := h.small
  diff := h.diff
  speak := h.speak

set_option maxRecDepth 100000 in
theorem check_ok (w : World) (bv cv ba ca : Nat) (zs : List I6) (n : Nat) (A : Nat → Nat) (h : Prob w bv cv ba ca zs n A) :
    Calls Tryz.prog 41 #[.agg #[.slice (some ⟨bv, 0, none⟩) zs.length cv, .slice (some ⟨ba, 0, none⟩) n ca, .slice none 0 0, .slice none 0 0]] w (Ret w fun v _ => v = .int .i64 0) := by
  have H := Lib.hid h
  clear h
  go_enter Tryz.func41, Tryz.ntmps41
  go_wp2_with fail
  obtain ⟨W, hW⟩ : ∃ W, w.alloc (.cells #[.slice (some ⟨bv, 0, none⟩) zs.length cv, .slice (some ⟨ba, 0, none⟩) n ca, .slice none 0 0, .slice none 0 0] 27) = W := ⟨_, rfl⟩
  have hR : Res W w.heap.size [.slice (some ⟨bv, 0, none⟩) zs.length cv, .slice (some ⟨ba, 0, none⟩) n ca, .slice none 0 0, .slice none 0 0] := by rw [← hW]; exact Res.made w [.slice (some ⟨bv, 0, none⟩) zs.length cv, .slice (some ⟨ba, 0, none⟩) n ca, .slice none 0 0, .slice none 0 0] _
  have hB : Below w.heap.size w W := by rw [← hW]; exact (Below.refl _ _).alloc (Nat.le_refl _) _
  rw [hW]
  clear hW
  have HR := Lib.hid hR
  have HB := Lib.hid hB
  have HW := Lib.hid (H.out.mono hB)
  clear hR hB
  refine (sorts_any bv 0 cv zs HW.out.fewV _ HW.out.vlt HW.out.vars).mono ?_
  rintro e w1 ⟨v, rfl, hb1, rfl, hM⟩
  have HM1 := Lib.hid hM
  have HB1 := Lib.hid (HB.out.trans (hb1.mono HB.out.size))
  have HR1 := Lib.hid (HR.out.mono hb1)
  have HP1 := Lib.hid (HW.out.mono hb1)
  clear hb1 hM
  have d0 := HR1.out.2.1 0 _ rfl
  go_wp2_with fail
  refine (vars_ok _ bv 0 cv zs HP1.out.fewV HP1.out.vlt HP1.out.vars HP1.out.pos HP1.out.inc).mono ?_
  rintro e w2 ⟨v, rfl, hb1, rfl⟩
  have HM2 := Lib.hid (HM1.out.mono hb1)
  have HB2 := Lib.hid (HB1.out.trans (hb1.mono HB1.out.size))
  have HR2 := Lib.hid (HR1.out.mono hb1)
  have HP2 := Lib.hid (HP1.out.mono hb1)
  clear hb1 d0
  have d1 := HR2.out.2.1 1 _ rfl
  go_wp2_with fail
  refine (atoms_ok _ ba 0 ca n A HP2.out.few HP2.out.alt HP2.out.atoms HP2.out.small HP2.out.diff _ _ _ HM2.out HP2.out.speak).mono ?_
  rintro e w3 ⟨v, rfl, hb1, rfl⟩
  have HB3 := Lib.hid (HB2.out.trans (hb1.mono HB2.out.size))
  have HR3 := Lib.hid (HR2.out.mono hb1)
  clear hb1 d1
  have d1 := HR3.out.2.1 1 _ rfl
  have d2 := HR3.out.2.1 2 _ rfl
  go_wp2_with fail
  refine (clauses_nil _ _).mono ?_
  rintro e w4 ⟨v, rfl, hb1, rfl⟩
  have HB4 := Lib.hid (HB3.out.trans (hb1.mono HB3.out.size))
  have HR4 := Lib.hid (HR3.out.mono hb1)
  clear hb1 d1 d2
  have d3 := HR4.out.2.1 3 _ rfl
  go_wp2_with fail
  refine (made_nil _ _ ⟨_, rfl⟩).mono ?_
  rintro e w5 ⟨v, rfl, hb1, rfl⟩
  have HB5 := Lib.hid (HB4.out.trans (hb1.mono HB4.out.size))
  clear hb1 d3
  go_wp2_with fail
  go_ret
  exact ⟨_, rfl, HB5.out, rfl⟩
end Go.Proofs.YtodeddappmfphaaGreatDoor
