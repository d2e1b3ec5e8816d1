/- Lists of ints: IndexFunc, ContainsFunc, Contains, Clone, Max, Ints, Round. -/
import Derived.Test.YtodeddappmfphaaGreatDoorProg
import Derived.Test.YtodeddappmfphaaGreatDoorLst
import Derived.Test.YtodeddappmfphaaGreatDoorShelf
namespace Go.Proofs.YtodeddappmfphaaGreatDoor
open Go.RowKit Go.Thd

def intZ : Value → Int | .int _ z => z | _ => 0
/-- Where the first one is that is so; -1: nowhere. -/
def idxR (p : Int → Bool) (l : List Int) : Int := match l.findIdx? p with | some i => (i : Int) | none => -1
theorem getD_eq (l : List Int) {k : Nat} (h : k < l.length) : l.getD k 0 = l[k] := by simp [List.getD_eq_getElem?_getD, List.getElem?_eq_getElem h]
theorem idxR_none {p : Int → Bool} {l : List Int} (h : ∀ j, j < l.length → p (l.getD j 0) = false) : idxR p l = -1 := by
  have : l.findIdx? p = none := by
    rw [List.findIdx?_eq_none_iff]
    intro x hx
    obtain ⟨j, hj, rfl⟩ := List.getElem_of_mem hx
    rw [← getD_eq l hj]; exact h j hj
  rw [idxR, this]
theorem idxR_some {p : Int → Bool} {l : List Int} {k : Nat} (hk : k < l.length) (h : ∀ j, j < k → p (l.getD j 0) = false) (hp : p (l.getD k 0) = true) : idxR p l = k := by
  have : l.findIdx? p = some k := by
    rw [List.findIdx?_eq_some_iff_getElem]
    refine ⟨hk, by rw [← getD_eq l hk]; exact hp, fun j hj => ?_⟩
    have := h j hj
    rw [getD_eq l (by omega)] at this
    simp [this]
  rw [idxR, this]
theorem idxR_any (p : Int → Bool) (l : List Int) : (decide (0 ≤ idxR p l)) = l.any p := by
  unfold idxR
  cases h : l.findIdx? p with
  | none =>
    rw [List.findIdx?_eq_none_iff] at h
    have : l.any p = false := by rw [List.any_eq_false]; intro x hx; rw [h x hx]; simp
    rw [this]; rfl
  | some i =>
    rw [List.findIdx?_eq_some_iff_getElem] at h
    obtain ⟨hi, hp, _⟩ := h
    have : l.any p = true := List.any_eq_true.2 ⟨_, List.getElem_mem hi, hp⟩
    rw [this]; simp

theorem indexFunc_any (w : World) (a : Option Addr) (c : Nat) (l : List Int) (hl : Ints w a c l) (hn : l.length ≤ 100000) (f : FuncId) (caps : Array Value) (p : Int → Bool)
    {fn : Func} {cd : Code} (hf : (Tryz.prog).funcs[f]? = some fn) (hbd : fn.body = some cd) (hnm : (fn.name == "runtime.NumGoroutine") = false)
    (hc : ∀ w' x, x ∈ l → Below w.heap.size w w' → Calls Tryz.prog f (#[.int .i64 x] ++ caps) w' (Ret w' fun v _ => v = .bool (p x))) :
    Calls Tryz.prog 132 #[.slice a l.length c, .func (.func f) #[] caps] w (Ret w fun v _ => v = .int .i64 (idxR p l)) := by
  go_enter Tryz.func132, Tryz.ntmps132
  go_wp2_with fail
  go_loopw [8] (fun v wr => ∃ k : Nat, k ≤ l.length ∧ v = .int .i64 k ∧ (∀ j, j < k → p (l.getD j 0) = false) ∧ Below w.heap.size w wr) (fun v _ => (l.length - intZ v).toNat)
  case atStart => exact ⟨0, Nat.zero_le _, rfl, fun j hj => by omega, Below.refl _ _⟩
  case round =>
    obtain ⟨k, hk, rfl, hp, hB⟩ := hrel
    have HP := Lib.hid hp
    have HB := Lib.hid hB
    clear hp hB
    by_cases h0 : k = l.length
    · subst h0
      go_wp2_with fail
      go_ret
      refine ⟨_, rfl, HB.out, ?_⟩
      show Value.int .i64 (-1) = .int .i64 (idxR p l)
      rw [idxR_none HP.out]
    · have hkl : k < l.length := by omega
      obtain ⟨b, off, rfl, hb, hcell⟩ := (hl.mono HB.out).2.resolve_left (by intro e; subst e; simp at hkl)
      have h1 := hcell k hkl
      have hx : l.getD k 0 ∈ l := by rw [getD_eq l hkl]; exact List.getElem_mem hkl
      have HC := Lib.hid (hc wr _ hx HB.out)
      clear hc hx hcell hl
      have HG : Hid (l.getD k 0 = l.getD k 0) := rfl
      generalize hgx : l.getD k 0 = x at h1 HC
      go_wp2_with (first | (guard_target =~ wpList _ _ _ ({ dst := _, op := Op.call { callee := Callee.value (Operand.tmp 11), args := _, argTypes := _ }, type := _, pos := _, after := _, guard := _ } :: _) _ _; refine wpList_closure rfl _ _ _ rfl f caps rfl _ rfl hf hbd hnm HC.out ?_) | fail)
      rintro v w' hb' rfl
      have HB' := Lib.hid (HB.out.trans (hb'.mono HB.out.size))
      clear hb'
      cases hpx : p x with
      | true =>
        go_wp2_with fail
        go_ret
        refine ⟨_, rfl, HB'.out, ?_⟩
        show Value.int .i64 k = .int .i64 (idxR p l)
        rw [idxR_some hkl HP.out (by rw [hgx]; exact hpx)]
      | false =>
        go_wp2_with fail
        go_roundw
        case rel => exact ⟨k + 1, by omega, by simp, fun j hj => by
          rcases Nat.lt_or_eq_of_le (Nat.lt_succ_iff.1 hj) with h | h
          · exact HP.out j h
          · subst h; rw [hgx]; exact hpx, HB'.out⟩
        case measure => simp [intZ]; omega

theorem containsFunc_any (w : World) (a : Option Addr) (c : Nat) (l : List Int) (hl : Ints w a c l) (hn : l.length ≤ 100000) (f : FuncId) (caps : Array Value) (p : Int → Bool)
    {fn : Func} {cd : Code} (hf : (Tryz.prog).funcs[f]? = some fn) (hbd : fn.body = some cd) (hnm : (fn.name == "runtime.NumGoroutine") = false)
    (hc : ∀ w' x, x ∈ l → Below w.heap.size w w' → Calls Tryz.prog f (#[.int .i64 x] ++ caps) w' (Ret w' fun v _ => v = .bool (p x))) :
    Calls Tryz.prog 79 #[.slice a l.length c, .func (.func f) #[] caps] w (Ret w fun v _ => v = .bool (l.any p)) := by
  have HC := Lib.hid (indexFunc_any w a c l hl hn f caps p hf hbd hnm hc)
  have HA : Hid (decide (0 ≤ idxR p l) = l.any p) := idxR_any p l
  clear hc
  go_enter Tryz.func79, Tryz.ntmps79
  go_wp2_with fail
  with_reducible refine HC.out.mono ?_
  rintro e w' ⟨v, rfl, hb, rfl⟩
  go_wp2_with fail
  go_ret
  exact ⟨_, rfl, hb, by rw [HA.out]; rfl⟩

theorem contains_ints (w : World) (a : Option Addr) (c : Nat) (l : List Int) (x : Int) (hl : Ints w a c l) (hn : l.length ≤ 100000) :
    Calls Tryz.prog 78 #[.slice a l.length c, .int .i64 x] w (RetS w fun v => v = .bool (l.contains x)) := by
  rcases hl.2 with rfl | ⟨b, off, rfl, hb, hc⟩
  · exact (Tryz.slices_Contains_int_empty a c x w).mono fun e w' ⟨he, hw⟩ => ⟨_, he, hw.symm, rfl⟩
  · exact (Tryz.slices_Contains_int b off l.length c l x w (Nat.le_refl _) (by omega) hc).mono fun e w' ⟨he, hw⟩ => ⟨_, he, hw.symm, by rw [List.take_length]⟩

theorem OwnI.of {w : World} {base : Nat} {v : Value} {l : List Int} (h : w.ownsRow base 3 1 v l.length (l.map (Value.int .i64))) : OwnI w v l ∧ ∀ b, v.ownBlock = some b → base ≤ b := by
  refine ⟨⟨h.1, ?_⟩, fun b hb => (h.lt b hb).1⟩
  rcases h.2 with h | ⟨g, cap, cur, hv, hb, rest⟩
  · exact .inl h
  · exact .inr ⟨g, cap, cur, hv, Nat.zero_le _, rest⟩

theorem clone_ints (w : World) (a : Option Addr) (c : Nat) (l : List Int) (hl : Ints w a c l) (hn : l.length ≤ 100000) :
    Calls Tryz.prog 81 #[.slice a l.length c] w (Ret w fun v w' => OwnI w' v l ∧ ∀ b, v.ownBlock = some b → w.heap.size ≤ b) := by
  cases a with
  | none =>
    have h0 : l = [] := by
      rcases hl.2 with h | ⟨b, off, h, _⟩
      · exact h
      · cases h
    subst h0
    exact (Tryz.slices_Clone_int_nil 0 c w).mono fun e w' ⟨he, hw⟩ => ⟨_, he, by rw [hw]; exact Below.refl _ _, OwnI.nil _, fun b hb => by simp [Value.ownBlock] at hb⟩
  | some p =>
    by_cases h0 : l = []
    · subst h0
      refine (Tryz.slices_Clone_int_zero p c w).mono ?_
      rintro e w' ⟨v, he, ho, _, hb⟩
      exact ⟨_, he, hb, OwnI.of (l := []) ho⟩
    · obtain ⟨b, off, hp, hb, hc⟩ := hl.2.resolve_left h0
      injection hp with hp
      subst hp
      refine (Tryz.slices_Clone_int b off l.length c l w (Nat.le_refl _) (by omega) hc).mono ?_
      rintro e w' ⟨v, he, ho, _, hb⟩
      rw [List.take_length] at ho
      exact ⟨_, he, hb, OwnI.of ho⟩

theorem ints_any (w : World) (a a' : Option Addr) (c c' : Nat) (l l' : List Int) (hl : Ints w a c l) (hl' : Ints w a' c' l') (hn : l.length ≤ 100000) (hn' : l'.length ≤ 100000) :
    Calls Tryz.prog 37 #[.slice a l.length c, .slice a' l'.length c'] w (Ret w fun v _ => v = .bool (decide (l = l'))) := by
  by_cases hlen : l.length = l'.length
  · have hD : ∀ k, k ≤ l.length → (∀ j, j < k → l.getD j 0 = l'.getD j 0) → k = l.length → l = l' := by
      intro k hk h e
      subst e
      apply List.ext_getElem hlen
      intro j h1 h2
      rw [← getD_eq l h1, ← getD_eq l' h2]; exact h j h1
    have hND : ∀ k, k < l.length → l.getD k 0 ≠ l'.getD k 0 → ¬ l = l' := by
      intro k _ h e; subst e; exact h rfl
    have HD := Lib.hid hD
    have HND := Lib.hid hND
    have HLL := Lib.hid hlen
    clear hD hND
    rw [← hlen]
    clear hlen
    have HL := Lib.hid hl
    have HL' := Lib.hid hl'
    generalize HGd : decide (l = l') = d
    have HGD := Lib.hid HGd
    clear HGd hl hl'
    go_enter Tryz.func37, Tryz.ntmps37
    go_wp2_with fail
    go_loopw [5] (fun v wr => ∃ k q : Nat, k ≤ l.length ∧ v = .int .i64 k ∧ (∀ j, j < k → l.getD j 0 = l'.getD j 0) ∧ wr = w.drewN q) (fun v _ => (l.length - intZ v).toNat)
    case atStart => exact ⟨0, 0, Nat.zero_le _, rfl, fun j hj => by omega, rfl⟩
    case round =>
      obtain ⟨k, q, hk, rfl, hp, rfl⟩ := hrel
      have HP := Lib.hid hp
      clear hp
      by_cases h0 : k = l.length
      · subst h0
        go_wp2_with fail
        go_ret
        refine ⟨_, rfl, (Below.refl _ _).drewN _, ?_⟩
        show Value.bool true = .bool d
        rw [← HGD.out, decide_eq_true (HD.out _ (Nat.le_refl _) HP.out rfl)]
      · have hkl : k < l.length := by omega
        have hkl' : k < l'.length := by have := HLL.out; omega
        obtain ⟨b, off, rfl, hb, hcell⟩ := HL.out.2.resolve_left (by intro e; subst e; simp at hkl)
        obtain ⟨b', off', rfl, hb', hcell'⟩ := HL'.out.2.resolve_left (by intro e; subst e; simp at hkl')
        have h1 := hcell k hkl
        have h2 := hcell' k hkl'
        clear hcell hcell' hkl'
        by_cases he : l.getD k 0 = l'.getD k 0
        · have HE := Lib.hid he
          rw [← he] at h2
          clear he
          generalize l.getD k 0 = x at h1 h2
          go_wp2_with fail
          go_quiet (fail)
          go_wp2_with fail
          go_roundw
          case rel => exact ⟨k + 1, _, by omega, by simp, fun j hj => by
            rcases Nat.lt_or_eq_of_le (Nat.lt_succ_iff.1 hj) with h | h
            · exact HP.out j h
            · subst h; exact HE.out, rfl⟩
          case measure => simp [intZ]; omega
        · have HE := Lib.hid (HND.out k hkl he)
          have hne : ((l.getD k 0) != (l'.getD k 0)) = true := by simp; exact he
          clear he
          generalize l.getD k 0 = x at h1 hne
          generalize l'.getD k 0 = y at h2 hne
          go_wp2_with fail
          go_quiet (fail)
          go_wp2_with fail
          go_ret
          refine ⟨_, rfl, ((Below.refl _ _).drewN _).drewN _, ?_⟩
          show Value.bool false = .bool d
          rw [← HGD.out, decide_eq_false HE.out]
  · have hne : ¬ l = l' := fun e => hlen (by rw [e])
    rw [decide_eq_false hne]
    have hb : ((l.length : Int) != (l'.length : Int)) = true := by simp; omega
    clear hne hlen hl hl'
    go_enter Tryz.func37, Tryz.ntmps37
    go_wp2_with fail
    go_ret
    exact ⟨_, rfl, Below.refl _ _, rfl⟩

/-- Round. -/
theorem round_any (w : World) (k : Int) (n : Nat) (h0 : 0 < n) (hn : n ≤ 1000) :
    Calls Tryz.prog 21 #[.int .i64 k, .int .i64 n] w (RetS w fun v => v = .int .i64 (k % (n : Int))) := by
  have h1 : -(n : Int) < k.tmod n := by have := Int.lt_tmod_of_pos k (show (0 : Int) < n by omega); omega
  have h2 : k.tmod n < n := Int.tmod_lt_of_pos k (by omega)
  have H : Hid ((wrap64 (k.tmod (n : Int) + (n : Int))).tmod (n : Int) = k % (n : Int)) := by
    show _ = _
    have hw : wrap64 (k.tmod (n : Int) + (n : Int)) = k.tmod (n : Int) + (n : Int) := by
      unfold wrap64
      omega
    rw [hw, Int.tmod_eq_emod_of_nonneg (by omega), Int.add_emod_right]
    have h3 := Int.mul_tdiv_add_tmod k (n : Int)
    have h4 : k = (k.tmod n) + (n : Int) * (k.tdiv n) := by omega
    conv => rhs; rw [h4]
    rw [Int.add_mul_emod_self_left]
  clear h1 h2
  go_enter Tryz.func21, Tryz.ntmps21
  go_wp2_with fail
  rw [H.out]
  go_ret
  exact ⟨_, rfl, rfl, rfl⟩
end Go.Proofs.YtodeddappmfphaaGreatDoor
