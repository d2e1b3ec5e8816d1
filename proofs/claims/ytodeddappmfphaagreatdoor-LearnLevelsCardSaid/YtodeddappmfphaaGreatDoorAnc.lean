/- learn's Analyze on a row of forced literals. -/
import Derived.Test.YtodeddappmfphaaGreatDoorAnb
namespace Go.Proofs.YtodeddappmfphaaGreatDoor
open Go.RowKit Go.Thd

/-- Atoms 1 to n stand in a row: each is true by the entry P + i, from the second on forced by the one ahead. -/
structure Row (S : St) (n P : Nat) (L : Int) : Prop where
  val : ∀ i : Nat, 1 ≤ i → i ≤ n → S.val (-(i : Int)) = -1
  lev : ∀ i : Nat, 1 ≤ i → i ≤ n → S.level (-(i : Int)) = L
  ent : ∀ i : Nat, 1 ≤ i → i ≤ n → S.ent (i - 1) = P + i
  inn : n ≤ S.n
  inm : P + n ≤ S.m
  kind1 : (S.e P).kind ≠ 2
  kind : ∀ i : Nat, 2 ≤ i → i ≤ n → (S.e (P + i - 1)).kind = 2 ∧ (S.e (P + i - 1)).lit = i
  why : ∀ i : Nat, 2 ≤ i → i ≤ n → (S.e (P + i - 1)).why.contains (i : Int) = true ∧ (S.e (P + i - 1)).why.filter (fun x => x != (i : Int)) = [-((i : Int) - 1)]
  short : ∀ i, i < S.m → (S.e i).why.length ≤ 1000
  pos : 0 < L
  small : n ≤ 1000

theorem Row.place {S : St} {n P : Nat} {L : Int} (h : Row S n P L) {i : Nat} (h1 : 1 ≤ i) (h2 : i ≤ n) : S.place (-(i : Int)) = ((P + i : Nat) : Int) := by
  unfold St.place
  rw [if_neg (by rw [h.val i h1 h2]; decide)]
  have : (-(i : Int)).natAbs - 1 = i - 1 := by omega
  rw [this, h.ent i h1 h2]

theorem sort2_row {k j : Nat} (h : k < j) (hk : 1 ≤ k) : sort2 (-(j : Int)) (-(k : Int)) = (-(k : Int), -(j : Int)) := by
  have : ordL (-(k : Int)) (-(j : Int)) < 0 := by
    unfold ordL cmpI
    have e1 : (-(k : Int)).natAbs = k := by omega
    have e2 : (-(j : Int)).natAbs = j := by omega
    rw [e1, e2]
    have : ((k : Nat) : Int) < ((j : Nat) : Int) := by omega
    simp [this]
  unfold sort2
  rw [if_pos this]

theorem sort2_row' {k j : Nat} (h : k < j) (hk : 1 ≤ k) : sort2 (-(k : Int)) (-(j : Int)) = (-(k : Int), -(j : Int)) := by
  have : ¬ ordL (-(j : Int)) (-(k : Int)) < 0 := by
    unfold ordL cmpI
    have e1 : (-(k : Int)).natAbs = k := by omega
    have e2 : (-(j : Int)).natAbs = j := by omega
    rw [e1, e2]
    have h1 : ¬ ((j : Nat) : Int) < ((k : Nat) : Int) := by omega
    have h2 : ((j : Nat) : Int) ≠ ((k : Nat) : Int) := by omega
    simp [h1, h2]
  unfold sort2
  rw [if_neg this]

def mJ (wr : World) : Value → Nat
  | .slice (some p) 2 _ => match wr.cell? ⟨p.block, 1, none⟩ with | some (.int _ z) => z.natAbs | _ => 0
  | _ => 0

set_option maxRecDepth 100000 in
theorem forced_ex {w : World} {T : TA} {S : St} {n P : Nat} {L : Int} (h : Tr w T S) (hR : Row S n P L) (b c : Nat) (k : Nat) (hk1 : 1 ≤ k) (hkn : k ≤ n) (hl : Ints w (some ⟨b, 0, none⟩) c [-(k : Int)]) :
    Calls Tryz.prog 88 #[.pointer (some ⟨T.bt, 0, none⟩), .slice (some ⟨b, 0, none⟩) 1 c] w (Ret w fun v _ => ∃ l a' n' c' o, v = .tuple #[.int .i64 l, .slice a' n' c', .bool o]) := by
  have hsm := hR.small
  have hm : S.most [-(k : Int)] = ((P + k - 1 : Nat) : Int) + 1 := by
    show max 0 (S.place (-(k : Int))) = _
    rw [hR.place hk1 hkn]; omega
  have hjm : P + k - 1 < S.m := by have := hR.inm; omega
  have hI : ∀ x ∈ [-(k : Int)], I64 x := by intro x hx; simp at hx; subst hx; unfold I64; omega
  have hsh := hR.short _ hjm
  by_cases hk : k = 1
  · subst hk
    have e : P + 1 - 1 = P := by omega
    refine (forced_no h (some ⟨b, 0, none⟩) c [-((1 : Nat) : Int)] hl (by simp) hI (P + 1 - 1) hm hjm (by omega) (by rw [e]; exact hR.kind1)).mono ?_
    rintro e w' ⟨v, he, hb, rfl⟩
    exact ⟨_, he, hb, 0, none, 0, 0, false, rfl⟩
  · obtain ⟨hk2, hlit⟩ := hR.kind k (by omega) hkn
    refine (forced_yes h (some ⟨b, 0, none⟩) c [-(k : Int)] hl (by simp) hI (P + k - 1) hm hjm (by omega) (by rw [hlit]; unfold I64; omega) hk2 (by rw [hlit]; simp) (by rw [hlit]; omega)).mono ?_
    rintro e w' ⟨v, he, hb, a', c', rfl, _⟩
    exact ⟨_, he, hb, _, a', _, c', true, rfl⟩

/-- What the loop holds: one literal, or two. -/
def Holds2 (wr : World) (v : Value) (k j : Nat) : Prop :=
  if j = k then ∃ b c, v = .slice (some ⟨b, 0, none⟩) 1 c ∧ Ints wr (some ⟨b, 0, none⟩) c [-(k : Int)]
  else ∃ b c, v = .slice (some ⟨b, 0, none⟩) 2 c ∧ Ints wr (some ⟨b, 0, none⟩) c [-(k : Int), -(j : Int)]

set_option maxRecDepth 100000 in
set_option maxHeartbeats 2000000 in
theorem analyze_row {w : World} {T : TA} {S : St} {n P : Nat} {L : Int} (h : Tr w T S) (hR : Row S n P L) (hL : L ≤ 1000) (a : Option Addr) (c : Nat) (k : Nat) (hk1 : 1 ≤ k) (hkn : k < n) (x y : Int) (hxy : (x = -(n : Int) ∧ y = -(k : Int)) ∨ (x = -(k : Int) ∧ y = -(n : Int))) (hl : Ints w a c [x, y]) :
    Calls Tryz.prog 36 #[.pointer (some ⟨T.bt, 0, none⟩), .slice a 2 c] w (Ret w fun v w' => ∃ b c, v = .tuple #[.slice (some ⟨b, 0, none⟩) 1 c, .int .i64 0, .int .i64 0] ∧ Ints w' (some ⟨b, 0, none⟩) c [-(k : Int)]) := by
  have hsm := hR.small
  have HT := Lib.hid h
  have HR := Lib.hid hR
  have HL := Lib.hid hl
  have hI : ∀ i : Nat, i ≤ n → I64 (-(i : Int)) := fun i hi => by unfold I64; omega
  have HI := Lib.hid hI
  have hLp := hR.pos
  have HSO : Hid (sort2 x y = (-(k : Int), -(n : Int))) := by
    show _ = _
    rcases hxy with ⟨rfl, rfl⟩ | ⟨rfl, rfl⟩
    · exact sort2_row hkn hk1
    · exact sort2_row' hkn hk1
  have HX : Hid (I64 x ∧ I64 y ∧ x ≠ 0 ∧ y ≠ 0 ∧ x ≠ y ∧ x.natAbs ≠ y.natAbs) := by
    show _ ∧ _
    rcases hxy with ⟨rfl, rfl⟩ | ⟨rfl, rfl⟩
    · exact ⟨hI n (Nat.le_refl _), hI k (by omega), by omega, by omega, by omega, by omega⟩
    · exact ⟨hI k (by omega), hI n (Nat.le_refl _), by omega, by omega, by omega, by omega⟩
  clear h hR hl hI hxy
  go_enter Tryz.func36, Tryz.ntmps36
  go_wp2_with fail
  obtain ⟨W, hW⟩ : ∃ W, w.alloc (.cells #[.pointer (some ⟨T.bt, 0, none⟩)] 33) = W := ⟨_, rfl⟩
  have hBW : Below w.heap.size w W := by rw [← hW]; exact (Below.refl _ _).alloc (Nat.le_refl _) _
  have hz : w.heap.size < W.heap.size := by rw [← hW]; simp
  have hc : W.cell? ⟨w.heap.size, 0, none⟩ = some (.pointer (some ⟨T.bt, 0, none⟩)) := by rw [← hW]; simp [go_sem]
  rw [hW]
  clear hW
  have HBW := Lib.hid hBW
  with_reducible refine (norm_two a c x y (HL.out.mono hBW) HX.out.2.2.1 HX.out.2.2.2.1 HX.out.1 HX.out.2.1).mono ?_
  rintro e w1 ⟨v, rfl, hb, hcase⟩
  rw [if_neg HX.out.2.2.2.2.1, if_neg HX.out.2.2.2.2.2, HSO.out] at hcase
  obtain ⟨b, c1, rfl, h2c, _, hblt, k0, k1⟩ := hcase
  have d0 : w1.cell? ⟨w.heap.size, 0, none⟩ = some (.pointer (some ⟨T.bt, 0, none⟩)) := (hb.cell (p := ⟨w.heap.size, 0, none⟩) hz).trans hc
  have hz1 : w.heap.size < w1.heap.size := Nat.lt_of_lt_of_le hz hb.size
  have HB1 := Lib.hid (HBW.out.trans (hb.mono HBW.out.size))
  have HL1 : Hid (Ints w1 (some ⟨b, 0, none⟩) c1 [-(k : Int), -(n : Int)]) := ⟨h2c, .inr ⟨b, 0, rfl, hblt, fun j hj => by
    match j, hj with
    | 0, _ => exact k0
    | 1, _ => exact k1⟩⟩
  have HMEM : Hid (∀ y : Int, y ∈ [-(k : Int), -(n : Int)] → ∃ i : Nat, y = -(i : Int) ∧ 1 ≤ i ∧ i ≤ n) := fun y hy => by
    simp at hy
    rcases hy with rfl | rfl
    · exact ⟨k, rfl, hk1, by omega⟩
    · exact ⟨n, rfl, by omega, Nat.le_refl _⟩
  clear hb hc hz hBW k0 k1
  go_wp2_with fail
  refine (containsFunc_any w1 (some ⟨b, 0, none⟩) c1 [-(k : Int), -(n : Int)] HL1.out (by simp) 83 #[.pointer (some ⟨w.heap.size, 0, none⟩)] (fun _ => false) Tryz.func83 rfl (by kernel_rfl)
    (fun w2 y hy hb => by
      obtain ⟨i, rfl, h1, h2⟩ := HMEM.out y hy
      have hinn := HR.out.inn
      exact an1_any ((HT.out.mono HB1.out).mono hb) w.heap.size _ ((hb.cell (p := ⟨w.heap.size, 0, none⟩) hz1).trans d0) (HI.out i h2) (by omega) (by omega))).mono ?_
  rintro e w2 ⟨v, rfl, hb2, rfl⟩
  have e0 : w2.cell? ⟨w.heap.size, 0, none⟩ = some (.pointer (some ⟨T.bt, 0, none⟩)) := (hb2.cell (p := ⟨w.heap.size, 0, none⟩) hz1).trans d0
  have hz2 : w.heap.size < w2.heap.size := Nat.lt_of_lt_of_le hz1 hb2.size
  have HB2 := Lib.hid (HB1.out.trans (hb2.mono HB1.out.size))
  have HL2 := Lib.hid (HL1.out.mono hb2)
  clear hb2
  go_wp2_with fail
  refine (containsFunc_any w2 (some ⟨b, 0, none⟩) c1 [-(k : Int), -(n : Int)] HL2.out (by simp) 85 #[.pointer (some ⟨w.heap.size, 0, none⟩)] (fun y => S.val y != -1) Tryz.func85 rfl (by kernel_rfl)
    (fun w3 y hy hb => by
      obtain ⟨i, rfl, h1, h2⟩ := HMEM.out y hy
      exact an2_any ((HT.out.mono HB2.out).mono hb) w.heap.size _ ((hb.cell (p := ⟨w.heap.size, 0, none⟩) hz2).trans e0) (HI.out i h2))).mono ?_
  rintro e w3 ⟨v, rfl, hb3, rfl⟩
  have f0 : w3.cell? ⟨w.heap.size, 0, none⟩ = some (.pointer (some ⟨T.bt, 0, none⟩)) := (hb3.cell (p := ⟨w.heap.size, 0, none⟩) hz2).trans e0
  have hz3 : w.heap.size < w3.heap.size := Nat.lt_of_lt_of_le hz2 hb3.size
  have HB3 := Lib.hid (HB2.out.trans (hb3.mono HB2.out.size))
  have HL3 := Lib.hid (HL2.out.mono hb3)
  have hany : ([-(k : Int), -(n : Int)].any fun y => S.val y != -1) = false := by
    simp [HR.out.val k hk1 (by omega), HR.out.val n (by omega) (Nat.le_refl _)]
  rw [hany]
  clear hb3 hany d0 e0
  go_wp2_with fail
  go_loopw [7] (fun v7 wr => ∃ j : Nat, k ≤ j ∧ j ≤ n ∧ Below w.heap.size w wr ∧ wr.cell? ⟨w.heap.size, 0, none⟩ = some (.pointer (some ⟨T.bt, 0, none⟩)) ∧ w.heap.size < wr.heap.size ∧ Holds2 wr v7 k j) (fun v7 wr => mJ wr v7)
  case atStart => exact ⟨n, by omega, Nat.le_refl _, HB3.out, f0, hz3, by rw [Holds2, if_neg (by omega)]; exact ⟨b, c1, rfl, HL3.out⟩⟩
  case round =>
    obtain ⟨j, hkj, hjn, hB, g0, gz, hH⟩ := hrel
    have HBr := Lib.hid hB
    clear hB
    by_cases he : j = k
    · rw [Holds2, if_pos he] at hH
      obtain ⟨b2, c2, rfl, hi2⟩ := hH
      have HI2 := Lib.hid hi2
      clear hi2
      go_wp2_with fail
      have hI1 : ∀ x ∈ [-(k : Int)], I64 x := fun x hx => by simp at hx; subst hx; exact HI.out k (by omega)
      refine (levels_any (HT.out.mono HBr.out) _ c2 [-(k : Int)] HI2.out (by simp) hI1 (fun i hi => by have := HR.out.short i hi; omega)).mono ?_
      rintro e w4 ⟨v, rfl, hb4, hO, _⟩
      have hmp : [-(k : Int)].map S.level = [L] := by simp [HR.out.lev k hk1 (by omega)]
      rw [hmp] at hO
      obtain ⟨b4, c4, rfl, _, _, _, hcell4, _⟩ := OwnI.row hO (by simp)
      have q0 : w4.cell? ⟨b4, 0, none⟩ = some (.int .i64 L) := hcell4 0 (by simp)
      have HB4 := Lib.hid (HBr.out.trans (hb4.mono HBr.out.size))
      have g4 : w4.cell? ⟨w.heap.size, 0, none⟩ = some (.pointer (some ⟨T.bt, 0, none⟩)) := (hb4.cell (p := ⟨w.heap.size, 0, none⟩) gz).trans g0
      have HI4 := Lib.hid (HI2.out.mono hb4)
      clear hb4 hO hcell4 hmp hI1 g0
      go_wp2_with fail
      refine (count_one w4 b4 c4 L q0).mono ?_
      rintro e w5 ⟨v, rfl, hb5, rfl⟩
      have HB5 := Lib.hid (HB4.out.trans (hb5.mono HB4.out.size))
      have g5 : w5.cell? ⟨w.heap.size, 0, none⟩ = some (.pointer (some ⟨T.bt, 0, none⟩)) := (hb5.cell (p := ⟨w.heap.size, 0, none⟩) (World.block_lt_of_cell? w4 ⟨w.heap.size, 0, none⟩ g4)).trans g4
      have HI5 := Lib.hid (HI4.out.mono hb5)
      clear hb5 g4 q0
      go_wp2_with fail
      refine (forced_ex (HT.out.mono HB5.out) HR.out b2 c2 k hk1 (by omega) HI5.out).mono ?_
      rintro e w6 ⟨v, rfl, hb6, l6, a6, n6, c6, o6, rfl⟩
      have HB6 := Lib.hid (HB5.out.trans (hb6.mono HB5.out.size))
      have HI6 := Lib.hid (HI5.out.mono hb6)
      have hLne : (L == 0) = false := by simp; omega
      clear hb6 g5
      go_wp2_with fail
      exact bodyPost_ret (v := .tuple #[.slice (some ⟨b2, 0, none⟩) 1 c2, .int .i64 0, .int .i64 0]) (by simp [results, Tryz.results36, go_sem]) rfl ⟨_, rfl, HB6.out, b2, c2, rfl, HI6.out⟩
    · rw [Holds2, if_neg he] at hH
      obtain ⟨b2, c2, rfl, hi2⟩ := hH
      have HI2 := Lib.hid hi2
      clear hi2
      go_wp2_with fail
      have hkj' : k < j := by omega
      have hI1 : ∀ x ∈ [-(k : Int), -(j : Int)], I64 x := fun x hx => by
        simp at hx
        rcases hx with rfl | rfl
        · exact HI.out k (by omega)
        · exact HI.out j (by omega)
      refine (levels_any (HT.out.mono HBr.out) _ c2 [-(k : Int), -(j : Int)] HI2.out (by simp) hI1 (fun i hi => by have := HR.out.short i hi; omega)).mono ?_
      rintro e w4 ⟨v, rfl, hb4, hO, _⟩
      have hmp : [-(k : Int), -(j : Int)].map S.level = [L, L] := by simp [HR.out.lev k hk1 (by omega), HR.out.lev j (by omega) hjn]
      rw [hmp] at hO
      obtain ⟨b4, c4, rfl, _, _, _, hcell4, _⟩ := OwnI.row hO (by simp)
      have q0 : w4.cell? ⟨b4, 0, none⟩ = some (.int .i64 L) := hcell4 0 (by simp)
      have q1 : w4.cell? ⟨b4, 1, none⟩ = some (.int .i64 L) := hcell4 1 (by simp)
      have HB4 := Lib.hid (HBr.out.trans (hb4.mono HBr.out.size))
      have g4 : w4.cell? ⟨w.heap.size, 0, none⟩ = some (.pointer (some ⟨T.bt, 0, none⟩)) := (hb4.cell (p := ⟨w.heap.size, 0, none⟩) gz).trans g0
      have HI4 := Lib.hid (HI2.out.mono hb4)
      have HI1 := Lib.hid hI1
      have HMJ : Hid (mJ wr (.slice (some ⟨b2, 0, none⟩) 2 c2) = j) := by
        obtain ⟨b9, off, hbo, _, hc9⟩ := HI2.out.2.resolve_left (by simp)
        cases hbo
        have := hc9 1 (by simp)
        show mJ wr (.slice (some ⟨b2, 0, none⟩) 2 c2) = j
        simp only [mJ]
        rw [Nat.zero_add] at this
        rw [this]
        show (([-(k : Int), -(j : Int)].getD 1 0)).natAbs = j
        show (-(j : Int)).natAbs = j
        omega
      clear hb4 hO hcell4 hmp hI1 g0
      go_wp2_with fail
      have hcnt := count_two w4 b4 c4 L L q0 q1 (by omega) (by omega)
      rw [if_pos rfl, if_pos rfl, show max L L = L by omega] at hcnt
      have HCNT := Lib.hid hcnt
      clear hcnt
      refine HCNT.out.mono ?_
      rintro e w5 ⟨v, rfl, hb5, rfl⟩
      have HB5 := Lib.hid (HB4.out.trans (hb5.mono HB4.out.size))
      have g5 : w5.cell? ⟨w.heap.size, 0, none⟩ = some (.pointer (some ⟨T.bt, 0, none⟩)) := (hb5.cell (p := ⟨w.heap.size, 0, none⟩) (World.block_lt_of_cell? w4 ⟨w.heap.size, 0, none⟩ g4)).trans g4
      have HI5 := Lib.hid (HI4.out.mono hb5)
      clear hb5 g4 q0 q1
      go_wp2_with fail
      have hm : S.most [-(k : Int), -(j : Int)] = ((P + j - 1 : Nat) : Int) + 1 := by
        show max (max 0 (S.place (-(k : Int)))) (S.place (-(j : Int))) = _
        rw [HR.out.place hk1 (by omega), HR.out.place (by omega) hjn]; omega
      have hjm : P + j - 1 < S.m := by have := HR.out.inm; omega
      obtain ⟨hk2, hlit⟩ := HR.out.kind j (by omega) hjn
      obtain ⟨hct, hfil⟩ := HR.out.why j (by omega) hjn
      have hsh := HR.out.short _ hjm
      have hF := forced_yes (HT.out.mono HB5.out) (some ⟨b2, 0, none⟩) c2 [-(k : Int), -(j : Int)] HI5.out (by simp) HI1.out (P + j - 1) hm hjm (by omega) (by rw [hlit]; unfold I64; omega) hk2 (by rw [hlit]; simp) (by rw [hlit]; omega)
      rw [hlit] at hF
      have HF := Lib.hid hF
      have HCT := Lib.hid hct
      have HFIL := Lib.hid hfil
      have HSH := Lib.hid hsh
      clear hF hm hjm hk2 hlit hct hfil hsh
      generalize (S.e (P + j - 1)).why = why at HF HCT HFIL HSH
      refine HF.out.mono ?_
      rintro e w6 ⟨v, rfl, hb6, a6, c6, rfl, hi6⟩
      have HB6 := Lib.hid (HB5.out.trans (hb6.mono HB5.out.size))
      have HI6 := Lib.hid (HI5.out.mono hb6)
      have HW6 := Lib.hid hi6
      have g6 : w6.cell? ⟨w.heap.size, 0, none⟩ = some (.pointer (some ⟨T.bt, 0, none⟩)) := (hb6.cell (p := ⟨w.heap.size, 0, none⟩) (World.block_lt_of_cell? w5 ⟨w.heap.size, 0, none⟩ g5)).trans g5
      have hLne : (L == 0) = false := by simp; omega
      clear hb6 g5 hi6
      go_wp2_with fail
      have hcj : (j : Int) - 1 = ((j - 1 : Nat) : Int) := by omega
      have hfl : why.filter (fun x => x != (j : Int)) ++ [-(k : Int), -(j : Int)].filter (fun x => x != -(j : Int)) = [-((j - 1 : Nat) : Int), -(k : Int)] := by
        rw [HFIL.out, hcj]
        have e1 : (-(k : Int) != -(j : Int)) = true := by simp; omega
        simp [e1]
      have hrt := resolve_two a6 (some ⟨b2, 0, none⟩) c6 c2 why [-(k : Int), -(j : Int)] (j : Int) (-((j - 1 : Nat) : Int)) (-(k : Int)) HW6.out HI6.out HSH.out (by simp) (by omega) (by omega) HCT.out (by simp) hfl (by omega) (by omega) (HI.out (j - 1) (by omega)) (HI.out k (by omega)) (by omega)
      have HRT := Lib.hid hrt
      clear hrt hfl
      refine HRT.out.mono ?_
      rintro e w7 ⟨v, rfl, hb7, hcase⟩
      have HB7 := Lib.hid (HB6.out.trans (hb7.mono HB6.out.size))
      have g7 : w7.cell? ⟨w.heap.size, 0, none⟩ = some (.pointer (some ⟨T.bt, 0, none⟩)) := (hb7.cell (p := ⟨w.heap.size, 0, none⟩) (World.block_lt_of_cell? w6 ⟨w.heap.size, 0, none⟩ g6)).trans g6
      clear hb7 g6
      by_cases hjk : j - 1 = k
      · rw [if_pos (by omega)] at hcase
        obtain ⟨b7, c7, rfl, h17, hlt7, k7⟩ := hcase
        have HH : Hid (Holds2 w7 (.slice (some ⟨b7, 0, none⟩) 1 c7) k (j - 1)) := by
          show Holds2 _ _ _ _
          rw [Holds2, if_pos hjk]
          refine ⟨b7, c7, rfl, h17, .inr ⟨b7, 0, rfl, hlt7, fun i hi => ?_⟩⟩
          match i, hi with
          | 0, _ => rw [← hjk]; exact k7
        go_wp2_with fail
        go_roundw
        case rel => exact ⟨j - 1, by omega, by omega, HB7.out, g7, World.block_lt_of_cell? w7 ⟨w.heap.size, 0, none⟩ g7, HH.out⟩
        case measure =>
          have e1 := HMJ.out
          simp only [mJ] at e1 ⊢
          omega
      · rw [if_neg (by omega), sort2_row (k := k) (j := j - 1) (by omega) hk1] at hcase
        obtain ⟨b7, c7, rfl, h17, hlt7, k7, k8⟩ := hcase
        have k8' : w7.cell? ⟨b7, 1, none⟩ = some (.int .i64 (-((j - 1 : Nat) : Int))) := k8
        have HH : Hid (Holds2 w7 (.slice (some ⟨b7, 0, none⟩) 2 c7) k (j - 1)) := by
          show Holds2 _ _ _ _
          rw [Holds2, if_neg hjk]
          refine ⟨b7, c7, rfl, h17, .inr ⟨b7, 0, rfl, hlt7, fun i hi => ?_⟩⟩
          match i, hi with
          | 0, _ => exact k7
          | 1, _ => exact k8
        have HM7 : Hid (mJ w7 (.slice (some ⟨b7, 0, none⟩) 2 c7) = j - 1) := by
          show _ = _
          simp only [mJ, k8']
          omega
        go_wp2_with fail
        go_roundw
        case rel => exact ⟨j - 1, by omega, by omega, HB7.out, g7, World.block_lt_of_cell? w7 ⟨w.heap.size, 0, none⟩ g7, HH.out⟩
        case measure =>
          have e1 := HMJ.out
          have e2 := HM7.out
          show mJ w7 _ < mJ wr _
          omega
end Go.Proofs.YtodeddappmfphaaGreatDoor
