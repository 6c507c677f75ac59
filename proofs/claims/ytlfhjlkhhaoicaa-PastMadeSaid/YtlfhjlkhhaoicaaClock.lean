/- The walks of the clock functions. -/
import Derived.Test.YtlfhjlkhhaoicaaWords
namespace Go.Proofs.Ytlfhjlkhhaoicaa
set_option linter.unusedVariables false
set_option linter.unusedSimpArgs false
open Go.RowKit
attribute [local go_sem] ck_get

set_option maxRecDepth 100000 in
set_option maxHeartbeats 400000 in
theorem refHas_any (c : Ck) (r n : Int) (w : World) :
    Calls Try.prog 21 #[.agg #[.int .i64 c.x0, .int .i64 c.x1, .int .i64 c.x2, .int .i64 c.x3, .int .i64 c.x4], .int .i64 r, .int .i64 n] w fun e w' => e = .returned (.bool (hasB c r n)) ∧ Below w.heap.size w w' := by
  go_enter Try.func21, Try.ntmps21
  go_wp2
  all_goals go_ret
  all_goals refine ⟨ret_bool ?_, (Below.refl _ _).alloc (Nat.le_refl _) _⟩
  all_goals first | (rw [hasB, decide_eq_decide]; omega) | (exact (decide_eq_false (by omega)).symm)

set_option maxRecDepth 100000 in
set_option maxHeartbeats 400000 in
theorem is_any (r : Int) (w : World) :
    Calls Try.prog 64 #[.int .i64 r] w fun e w' => e = .returned (.bool (isB r)) ∧ w = w' := by
  go_enter Try.func64, Try.ntmps64
  go_wp2
  all_goals go_ret
  all_goals refine ⟨ret_bool ?_, rfl⟩
  all_goals first | (rw [isB, decide_eq_decide]; omega) | (exact (decide_eq_false (by omega)).symm)

set_option maxRecDepth 100000 in
set_option maxHeartbeats 400000 in
theorem has_any (c : Ck) (r n : Int) (w : World) :
    Calls Try.prog 45 #[.agg #[.int .i64 c.x0, .int .i64 c.x1, .int .i64 c.x2, .int .i64 c.x3, .int .i64 c.x4], .int .i64 r, .int .i64 n] w fun e w' => e = .returned (.bool (hasB c r n)) ∧ Below w.heap.size w w' := by
  by_cases h : 0 ≤ r ∧ r < 5
  · have hd : Hid (isB r = true) := decide_eq_true h
    obtain ⟨h1, h2⟩ := h
    go_enter Try.func45, Try.ntmps45
    go_wp2_with (go_at_call 64; refine (is_any _ _).mono ?_; rintro e w' ⟨rfl, rfl⟩; rw [hd.out])
    all_goals go_ret
    all_goals refine ⟨ret_bool ?_, (Below.refl _ _).alloc (Nat.le_refl _) _⟩
    all_goals first | (rw [hasB, decide_eq_decide]; omega) | (exact (decide_eq_false (by omega)).symm)
  · have hd : Hid (isB r = false) := decide_eq_false h
    have h' : Hid (hasB c r n = false) := decide_eq_false (by omega)
    clear h
    go_enter Try.func45, Try.ntmps45
    go_wp2_with (go_at_call 64; refine (is_any _ _).mono ?_; rintro e w' ⟨rfl, rfl⟩; rw [hd.out])
    all_goals go_ret
    all_goals exact ⟨ret_bool h'.out.symm, (Below.refl _ _).alloc (Nat.le_refl _) _⟩

set_option maxRecDepth 100000 in
set_option maxHeartbeats 400000 in
theorem refLessEq_any (a b : Ck) (w : World) :
    Calls Try.prog 22 #[.agg #[.int .i64 a.x0, .int .i64 a.x1, .int .i64 a.x2, .int .i64 a.x3, .int .i64 a.x4], .agg #[.int .i64 b.x0, .int .i64 b.x1, .int .i64 b.x2, .int .i64 b.x3, .int .i64 b.x4]] w fun e w' => e = .returned (.bool (leB a b)) ∧ Below w.heap.size w w' := by
  go_enter Try.func22, Try.ntmps22
  go_wp2
  go_loopw [5] (fun i wr => ∃ k : Nat, k ≤ 5 ∧ i = .int .i64 k ∧ leTo a b k ∧ ∃ m, wr = ((w.alloc (Obj.cells #[Value.int .i64 a.x0, Value.int .i64 a.x1, Value.int .i64 a.x2, Value.int .i64 a.x3, Value.int .i64 a.x4] 23)).alloc (Obj.cells #[Value.int .i64 b.x0, Value.int .i64 b.x1, Value.int .i64 b.x2, Value.int .i64 b.x3, Value.int .i64 b.x4] 23)).drewN m) (fun i _ => 5 - (intOf i).toNat)
  case atStart => exact ⟨0, by omega, rfl, fun _ h => by omega, 0, rfl⟩
  case round =>
    obtain ⟨k, hk, rfl, hle, m, rfl⟩ := hrel
    by_cases hlt : k < 5
    · go_wp2
      go_quiet (fail)
      go_wp2
      · have h : b.get k < a.get k := by assumption
        go_ret
        exact ⟨ret_bool (leB_false hlt h).symm, bdN (bdN (((Below.refl _ _).alloc (Nat.le_refl _) _).alloc (by simp) _) _) _⟩
      · have h : a.get k ≤ b.get k := by assumption
        go_roundw
        case rel => exact ⟨k + 1, by omega, by go_num, leTo_succ hle h, _, rfl⟩
        case measure => simp [intOf]; omega
    · go_wp2
      go_ret
      obtain rfl : k = 5 := by omega
      exact ⟨ret_bool (leB_iff.2 hle).symm, bdN (((Below.refl _ _).alloc (Nat.le_refl _) _).alloc (by simp) _) _⟩

attribute [local go_sem] ck_get?
set_option maxRecDepth 100000 in
set_option maxHeartbeats 400000 in
theorem join_any (a b : Ck) (w : World) :
    Calls Try.prog 65 #[.agg #[.int .i64 a.x0, .int .i64 a.x1, .int .i64 a.x2, .int .i64 a.x3, .int .i64 a.x4], .agg #[.int .i64 b.x0, .int .i64 b.x1, .int .i64 b.x2, .int .i64 b.x3, .int .i64 b.x4]] w fun e w' => e = .returned (.agg #[.int .i64 ((joinC a b)).x0, .int .i64 ((joinC a b)).x1, .int .i64 ((joinC a b)).x2, .int .i64 ((joinC a b)).x3, .int .i64 ((joinC a b)).x4]) ∧ Below w.heap.size w w' := by
  go_enter Try.func65, Try.ntmps65
  go_wp2
  go_loopw [6] (fun i wr => ∃ k : Nat, k ≤ 5 ∧ i = .int .i64 k ∧ ∃ x : Ck, (∀ j, j < 5 → x.get j = if j < k then max (a.get j) (b.get j) else a.get j) ∧ blk wr w.heap.size [Value.int .i64 x.x0, Value.int .i64 x.x1, Value.int .i64 x.x2, Value.int .i64 x.x3, Value.int .i64 x.x4] 23 ∧ blk wr (w.heap.size + 1) [Value.int .i64 b.x0, Value.int .i64 b.x1, Value.int .i64 b.x2, Value.int .i64 b.x3, Value.int .i64 b.x4] 23 ∧ blk wr (w.heap.size + 1 + 1) [Value.int .i64 0, .int .i64 0, .int .i64 0, .int .i64 0, .int .i64 0] 23 ∧ Below w.heap.size w wr) (fun i _ => 5 - (intOf i).toNat)
  case atStart => exact ⟨0, by omega, rfl, a, fun _ _ => by simp, ((blk_new _ _ _).alloc _).alloc _, (blk_at (by simp) _ _).alloc _, blk_at (by simp) _ _, (((Below.refl _ _).alloc (Nat.le_refl _) _).alloc (by simp) _).alloc (by simp; omega) _⟩
  case round =>
    obtain ⟨k, hk, rfl, x, hx, h0, h1, h2, hB⟩ := hrel
    have c0 := h0.cell; have c1 := h1.cell; have c2 := h2.cell
    have f0 := h0.free; have f2 := h2.free
    by_cases hlt : k < 5
    · go_wp2
      go_region
      go_wp2
      go_roundw
      case rel =>
        refine ⟨k + 1, by omega, by go_num, x.set k (if a.get k < b.get k then b.get k else a.get k), fun j hj => ?_, (h0.setCk hlt _).drew, (h1.set_ne (by simp) _).drew, (h2.set_ne (by simp; omega) _).drew, (hB.setCell (by simp) _).drew⟩
        have := hx j hj
        by_cases e : j = k
        · subst e
          have e1 : (if j < j + 1 then max (a.get j) (b.get j) else a.get j) = max (a.get j) (b.get j) := if_pos (by omega)
          rw [Ck.get_set_same _ hj, e1]
          split <;> omega
        · rw [Ck.get_set_ne _ (Ne.symm e), this]
          by_cases e2 : j < k
          · rw [if_pos e2, if_pos (by omega)]
          · rw [if_neg e2, if_neg (by omega)]
      case measure => simp [intOf]; omega
    · go_wp2
      have hxj : x = joinC a b := Ck.ext' fun j hj => by rw [hx j hj, if_pos (by omega), joinC_get hj]
      subst hxj
      refine bodyPost_ret (v := .agg #[.int .i64 ((joinC a b)).x0, .int .i64 ((joinC a b)).x1, .int .i64 ((joinC a b)).x2, .int .i64 ((joinC a b)).x3, .int .i64 ((joinC a b)).x4]) (by simp [results, Try.results65, go_sem, c2]) rfl ⟨rfl, ?_⟩
      exact ((((hB.setCell (by simp; omega) _).setCell (by simp; omega) _).setCell (by simp; omega) _).setCell (by simp; omega) _).setCell (by simp; omega) _

end Go.Proofs.Ytlfhjlkhhaoicaa
