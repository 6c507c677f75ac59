/- Two rows of events held against each other (the reference's Same), and the program's clock.LessEq. -/
import Derived.Test.YtlfhjlkhhaoicaaClock
import Derived.Test.YtlfhjlkhhaoicaaEqs
namespace Go.Proofs.Ytlfhjlkhhaoicaa
set_option linter.unusedVariables false
set_option linter.unusedSimpArgs false
open Go.RowKit
attribute [local go_sem] ck_get ck_get?
attribute [local go_sem high] eqCk eqMk eqEv

def sameB (l m : List Ev) : Bool := decide (l = m)
theorem sameB_step {l m : List Ev} {k : Nat} {a b : Ev} (ha : l[k]? = some a) (hb : m[k]? = some b) (h : decide (a = b) = false) : sameB l m = false :=
  decide_eq_false fun e => by subst e; rw [ha] at hb; cases hb; simp at h
theorem take_step {l m : List Ev} {k : Nat} {a b : Ev} (ha : l[k]? = some a) (hb : m[k]? = some b) (h : decide (a = b) = true) (ht : l.take k = m.take k) : l.take (k + 1) = m.take (k + 1) := by
  rw [List.take_add_one, List.take_add_one, ht, ha, hb, of_decide_eq_true h]

set_option maxRecDepth 100000 in
set_option maxHeartbeats 400000 in
theorem same_any (A C : Option Addr) (ca cc : Nat) (l m : List Ev) (w : World) (hl : evs w A l) (hm : evs w C m) (h1 : l.length ≤ maxLen) :
    Calls Try.prog 20 #[.slice A l.length ca, .slice C m.length cc] w fun e w' => e = .returned (.bool (sameB l m)) ∧ Below w.heap.size w w' := by
  unfold maxLen at h1
  by_cases hlen : l.length = m.length
  · have HL := Lib.hid hlen
    rw [← hlen]
    have hne : ((l.length : Int) != (l.length : Int)) = false := by simp
    clear hlen
    generalize hn : l.length = n at *
    have HN := Lib.hid hn
    clear hn
    go_enter Try.func20, Try.ntmps20
    go_wp2
    go_loopw [5] (fun i wr => ∃ k : Nat, k ≤ n ∧ i = .int .i64 k ∧ Hid (l.take k = m.take k) ∧ Below w.heap.size w wr) (fun i _ => n - (intOf i).toNat)
    case atStart => exact ⟨0, by omega, rfl, rfl, Below.refl _ _⟩
    case round =>
      obtain ⟨k, hk, rfl, ht, hB⟩ := hrel
      by_cases hlt : k < n
      · obtain ⟨x, hx⟩ : ∃ x, l[k]? = some x := ⟨_, List.getElem?_eq_getElem (by rw [HN.out]; exact hlt)⟩
        obtain ⟨y, hy⟩ : ∃ y, m[k]? = some y := ⟨_, List.getElem?_eq_getElem (by rw [← HL.out]; exact hlt)⟩
        obtain ⟨b, off, rfl, hb, hat⟩ := hl.get hx
        obtain ⟨b', off', rfl, hb', hat'⟩ := hm.get hy
        obtain ⟨c0, c1, c2, c3, c4, c5, c6, c7, c8, c9, c10, c11⟩ := evAt_get (hat.below hB hb) hx
        obtain ⟨d0, d1, d2, d3, d4, d5, d6, d7, d8, d9, d10, d11⟩ := evAt_get (hat'.below hB hb') hy
        have HX := Lib.hid hx; have HY := Lib.hid hy
        clear hx hy
        go_wp2
        go_quiet (fail)
        go_wp2
        · have hd : (!decide (x = y)) = true := by assumption
          go_ret
          exact ⟨ret_bool (sameB_step HX.out HY.out (by simpa using hd)).symm, bdN hB _⟩
        · have hd : (!decide (x = y)) = false := by assumption
          go_roundw
          case rel => exact ⟨k + 1, by omega, by go_num, take_step HX.out HY.out (by simpa using hd) ht.out, bdN hB _⟩
          case measure => simp [intOf]; omega
      · go_wp2
        go_ret
        have ht' := ht.out
        rw [List.take_of_length_le (by rw [HN.out]; omega), List.take_of_length_le (by rw [← HL.out]; omega)] at ht'
        exact ⟨ret_bool (decide_eq_true ht').symm, hB⟩
  · have hd : Hid (sameB l m = false) := decide_eq_false fun h => hlen (by rw [h])
    have hne : ((l.length : Int) != (m.length : Int)) = true := by rw [bne_iff_ne]; omega
    go_enter Try.func20, Try.ntmps20
    go_wp2
    go_ret
    exact ⟨ret_bool hd.out.symm, Below.refl _ _⟩

set_option maxRecDepth 100000 in
set_option maxHeartbeats 400000 in
theorem lessEq_any (a b : Ck) (w : World) :
    Calls Try.prog 46 #[.agg #[.int .i64 a.x0, .int .i64 a.x1, .int .i64 a.x2, .int .i64 a.x3, .int .i64 a.x4], .agg #[.int .i64 b.x0, .int .i64 b.x1, .int .i64 b.x2, .int .i64 b.x3, .int .i64 b.x4]] w fun e w' => e = .returned (.bool (leB a b)) ∧ Below w.heap.size w w' := by
  go_enter Try.func46, Try.ntmps46
  go_wp2
  go_region_held3 (fun w' => (∀ o, w'.cell? ⟨w.heap.size, o, none⟩ = [Value.int .i64 a.x0, Value.int .i64 a.x1, Value.int .i64 a.x2, Value.int .i64 a.x3, Value.int .i64 a.x4][o]?) ∧ ∀ o, w'.cell? ⟨w.heap.size + 1, o, none⟩ = [Value.int .i64 b.x0, Value.int .i64 b.x1, Value.int .i64 b.x2, Value.int .i64 b.x3, Value.int .i64 b.x4][o]?) (first | exact ⟨((blk_new _ _ _).alloc _).drew.cell, (blk_at (by simp) _ _).drew.cell⟩ | exact ⟨(((blk_new _ _ _).alloc _).drew.below hb (by simp <;> omega)).cell, ((blk_at (by simp) _ _).drew.below hb (by simp <;> omega)).cell⟩) (first | (go_at_call 65; refine (join_any _ _ _).mono ?_; rintro e w1 ⟨rfl, hb⟩))
  go_wp2
  go_ret
  exact ⟨ret_bool joinC_le, (((Below.refl _ _).alloc (Nat.le_refl _) _).alloc (by simp) _).drew.trans (hb.mono (by simp <;> omega))⟩
end Go.Proofs.Ytlfhjlkhhaoicaa
