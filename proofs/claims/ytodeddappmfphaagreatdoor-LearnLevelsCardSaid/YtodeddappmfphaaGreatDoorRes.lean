/- clause.Resolve, where two literals come of it. -/
import Derived.Test.YtodeddappmfphaaGreatDoorCnt
namespace Go.Proofs.YtodeddappmfphaaGreatDoor
open Go.RowKit Go.Thd

theorem filter_step {l : List Int} {k : Nat} (hk : k < l.length) (p : Int → Bool) : (l.take (k + 1)).filter p = (l.take k).filter p ++ if p (l.getD k 0) then [l.getD k 0] else [] := by
  rw [show l.take (k + 1) = l.take k ++ [l[k]] from by rw [List.take_add_one, List.getElem?_eq_getElem hk]; rfl, List.filter_append, getD_eq l hk]
  congr 1
  by_cases h : p l[k] <;> simp [h]

set_option maxRecDepth 100000 in
set_option maxHeartbeats 1000000 in
theorem resolve_two {w : World} (a a' : Option Addr) (c c' : Nat) (l l' : List Int) (t r s : Int) (hl : Ints w a c l) (hl' : Ints w a' c' l') (hn : l.length ≤ 1000) (hn' : l'.length ≤ 1000) (ht : t ≠ 0) (htI : -1000000 ≤ t ∧ t ≤ 1000000)
    (hc : l.contains t = true) (hc' : l'.contains (-t) = true) (hrs : l.filter (fun x => x != t) ++ l'.filter (fun x => x != -t) = [r, s]) (hr : r ≠ 0) (hs : s ≠ 0) (hrI : I64 r) (hsI : I64 s) (hab : r = s ∨ r.natAbs ≠ s.natAbs) :
    Calls Tryz.prog 89 #[.slice a l.length c, .slice a' l'.length c', .int .i64 t] w (Ret w fun v w' =>
      if r = s then ∃ b c, v = .tuple #[.slice (some ⟨b, 0, none⟩) 1 c, .int .i64 0] ∧ 1 ≤ c ∧ b < w'.heap.size ∧ w'.cell? ⟨b, 0, none⟩ = some (.int .i64 r)
      else ∃ b c, v = .tuple #[.slice (some ⟨b, 0, none⟩) 2 c, .int .i64 0] ∧ 2 ≤ c ∧ b < w'.heap.size ∧ w'.cell? ⟨b, 0, none⟩ = some (.int .i64 (sort2 r s).1) ∧ w'.cell? ⟨b, 1, none⟩ = some (.int .i64 (sort2 r s).2)) := by
  have HL := Lib.hid hl
  have HL' := Lib.hid hl'
  have HC := contains_ints w a c l t hl (by omega)
  rw [hc] at HC
  have HC' := contains_ints w a' c' l' (-t) hl' (by omega)
  rw [hc'] at HC'
  have KC := Lib.hid HC
  have KC' := Lib.hid HC'
  have HRS := Lib.hid hrs
  have HR0 := Lib.hid hr
  have HS0 := Lib.hid hs
  have HRI := Lib.hid hrI
  have HSI := Lib.hid hsI
  have HAB := Lib.hid hab
  have ht0 : (t == 0) = false := by simpa using ht
  have ht1 : (t == -t) = false := by simp; omega
  clear hl hl' hc hc' HC HC' hrs hr hs hrI hsI hab ht
  go_enter Tryz.func89, Tryz.ntmps89
  go_wp2_with fail
  with_reducible refine KC.out.mono ?_
  rintro e w1 ⟨v, rfl, rfl, rfl⟩
  go_wp2_with fail
  with_reducible refine KC'.out.mono ?_
  rintro e w1 ⟨v, rfl, rfl, rfl⟩
  go_wp2_with fail
  go_loopw [38, 8] (fun vi vo wr => ∃ k : Nat, k ≤ l.length ∧ vi = .int .i64 k ∧ Below w.heap.size w wr ∧ OwnI wr vo ((l.take k).filter (fun x => x != t)) ∧ ∀ b, vo.ownBlock = some b → w.heap.size ≤ b) (fun vi _ _ => (l.length - intZ vi).toNat)
  case atStart => exact ⟨0, Nat.zero_le _, rfl, Below.refl _ _, OwnI.nil _, fun b hb => by simp [Value.ownBlock] at hb⟩
  case round =>
    obtain ⟨k, hk, rfl, hB, hO, hF⟩ := hrel
    have HB := Lib.hid hB
    have HO := Lib.hid hO
    have HFR := Lib.hid hF
    clear hB hO hF
    by_cases h0 : k = l.length
    · subst h0
      have HO' : Hid _ := HO
      clear HO
      rw [List.take_length] at HO'
      go_wp2_with fail
      go_loopw [52, 8] (fun vi vo wr => ∃ k : Nat, k ≤ l'.length ∧ vi = .int .i64 k ∧ Below w.heap.size w wr ∧ OwnI wr vo (l.filter (fun x => x != t) ++ (l'.take k).filter (fun x => x != -t)) ∧ ∀ b, vo.ownBlock = some b → w.heap.size ≤ b) (fun vi _ _ => (l'.length - intZ vi).toNat)
      case atStart => exact ⟨0, Nat.zero_le _, rfl, HB.out, by simpa using HO'.out, HFR.out⟩
      case round =>
        obtain ⟨k, hk, rfl, hB, hO, hF⟩ := hrel
        have HB := Lib.hid hB
        have HO := Lib.hid hO
        have HFR := Lib.hid hF
        clear hB hO hF
        by_cases h0 : k = l'.length
        · subst h0
          have HO' : Hid _ := HO
          clear HO
          rw [List.take_length] at HO'
          go_wp2_with fail
          rw [HRS.out] at HO'
          obtain ⟨a2, c2, rfl, hi2, _⟩ := HO'.out.slice
          have HN := norm_two a2 c2 r s hi2 HR0.out HS0.out HRI.out HSI.out
          have HNN := Lib.hid HN
          clear HN hi2
          refine HNN.out.mono ?_
          rintro e w5 ⟨v, rfl, hb5, hcase⟩
          have HB5 := Lib.hid (HB.out.trans (hb5.mono HB.out.size))
          clear hb5
          by_cases hrs : r = s
          · rw [if_pos hrs] at hcase
            obtain ⟨b, c3, rfl, h1c, _, hblt, k0⟩ := hcase
            go_wp2_with fail
            go_ret2
            exact ⟨_, rfl, HB5.out, b, c3, rfl, h1c, hblt, by first | exact k0 | (rw [← hrs]; exact k0)⟩
          · rw [if_neg hrs, if_neg (HAB.out.resolve_left hrs)] at hcase
            obtain ⟨b, c3, rfl, h1c, _, hblt, k0, k1⟩ := hcase
            go_wp2_with fail
            go_ret2
            exact ⟨_, rfl, HB5.out, b, c3, rfl, h1c, hblt, k0, k1⟩
        · have hkl : k < l'.length := by omega
          obtain ⟨b, off, rfl, hb, hcell⟩ := (HL'.out.mono HB.out).2.resolve_left (by intro e; subst e; simp at hkl)
          have h1 := hcell k hkl
          have HTK := Lib.hid (filter_step hkl (fun x => x != -t))
          clear hcell
          generalize l'.getD k 0 = x at h1 HTK
          cases hx : (x != -t) with
          | false =>
            have HT2 : Hid ((l'.take (k + 1)).filter (fun x => x != -t) = (l'.take k).filter (fun x => x != -t)) := by
              show _ = _
              rw [HTK.out]
              simp [hx]
            go_wp2_with fail
            go_roundw
            case rel => exact ⟨k + 1, by omega, by simp, HB.out, by rw [HT2.out]; exact HO.out, HFR.out⟩
            case measure => simp [intZ]; omega
          | true =>
            have HT2 : Hid ((l'.take (k + 1)).filter (fun x => x != -t) = (l'.take k).filter (fun x => x != -t) ++ [x]) := by
              show _ = _
              rw [HTK.out]
              simp [hx]
            obtain ⟨v', w2, hrun, hO2, hU, hfr⟩ := append_int HO.out x (by
              have e1 := List.length_filter_le (fun x => x != -t) (l'.take k)
              have e2 : (l'.take k).length ≤ 1000 := by rw [List.length_take]; omega
              have e3 := List.length_filter_le (fun x => x != t) l
              rw [List.length_append]; omega)
            have HR := Lib.hid hrun
            have HO2 := Lib.hid hO2
            have hB2 : Below w.heap.size w w2 := HB.out.trans (hU.below (fun k hk hF => by have := HFR.out k hF; omega) HB.out.size)
            have HB2 := Lib.hid hB2
            have HF2 : Hid (∀ b, v'.ownBlock = some b → w.heap.size ≤ b) := fun b hb => by
              rcases hfr b hb with h | h
              · exact HFR.out b h
              · exact Nat.le_trans HB.out.size h
            clear hrun hO2 hU hfr hB2
            go_wp2_with (at_builtin; go_must (refine wpList_append_by rfl _ _ 29 rfl _ _ _ _ rfl rfl HR.out ?_))
            go_roundw
            case rel => exact ⟨k + 1, by omega, by simp, HB2.out, by rw [HT2.out, ← List.append_assoc]; exact HO2.out, HF2.out⟩
            case measure => simp [intZ]; omega

    · have hkl : k < l.length := by omega
      obtain ⟨b, off, rfl, hb, hcell⟩ := (HL.out.mono HB.out).2.resolve_left (by intro e; subst e; simp at hkl)
      have h1 := hcell k hkl
      have HTK := Lib.hid (filter_step hkl (fun x => x != t))
      clear hcell
      generalize l.getD k 0 = x at h1 HTK
      cases hx : (x != t) with
      | false =>
        have HT2 : Hid ((l.take (k + 1)).filter (fun x => x != t) = (l.take k).filter (fun x => x != t)) := by
          show _ = _
          rw [HTK.out]
          simp [hx]
        go_wp2_with fail
        go_roundw
        case rel => exact ⟨k + 1, by omega, by simp, HB.out, by rw [HT2.out]; exact HO.out, HFR.out⟩
        case measure => simp [intZ]; omega
      | true =>
        have HT2 : Hid ((l.take (k + 1)).filter (fun x => x != t) = (l.take k).filter (fun x => x != t) ++ [x]) := by
          show _ = _
          rw [HTK.out]
          simp [hx]
        obtain ⟨v', w2, hrun, hO2, hU, hfr⟩ := append_int HO.out x (by
          have e1 := List.length_filter_le (fun x => x != t) (l.take k)
          have e2 : (l.take k).length ≤ 1000 := by rw [List.length_take]; omega
          skip
          omega)
        have HR := Lib.hid hrun
        have HO2 := Lib.hid hO2
        have hB2 : Below w.heap.size w w2 := HB.out.trans (hU.below (fun k hk hF => by have := HFR.out k hF; omega) HB.out.size)
        have HB2 := Lib.hid hB2
        have HF2 : Hid (∀ b, v'.ownBlock = some b → w.heap.size ≤ b) := fun b hb => by
          rcases hfr b hb with h | h
          · exact HFR.out b h
          · exact Nat.le_trans HB.out.size h
        clear hrun hO2 hU hfr hB2
        go_wp2_with (at_builtin; go_must (refine wpList_append_by rfl _ _ 29 rfl _ _ _ _ rfl rfl HR.out ?_))
        go_roundw
        case rel => exact ⟨k + 1, by omega, by simp, HB2.out, by rw [HT2.out]; exact HO2.out, HF2.out⟩
        case measure => simp [intZ]; omega
end Go.Proofs.YtodeddappmfphaaGreatDoor
