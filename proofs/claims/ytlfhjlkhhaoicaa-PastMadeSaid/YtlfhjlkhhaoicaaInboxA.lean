/- The walks of the inbox's functions (layer 13), and of slices.Clone, Grow, Concat at events. -/
import Derived.Test.YtlfhjlkhhaoicaaDrain
import Derived.Lib.AppendZerosOnto
import Derived.Lib.AppendZeros
import Derived.Lib.SliceRun
namespace Go.Proofs.Ytlfhjlkhhaoicaa
set_option linter.unusedVariables false
set_option linter.unusedSimpArgs false
open Go.RowKit
attribute [local go_sem] q_le0 q_le1 q_le2 q_le3 q_lt1 q_lt2 q_lt3

theorem grownBy_setCell (W : World) (b o : Nat) (v : Value) : W.grownBy (W.setCell ⟨b, o, none⟩ v) (some b) :=
  ⟨rfl, rfl, rfl, by simp [World.setCell], fun i hi hne => Below.heap_setCell _ _ _ _ (fun e => hne (by rw [e]))⟩
theorem bsz {a w : World} (h : Below a.heap.size a w) : a.heap.size ≤ w.heap.size := h.size
/-- The cells of an inbox. -/
abbrev inb (most : Int) (c : Ck) (v : Value) : List Value := [.int .i64 most, .int .i64 c.x0, .int .i64 c.x1, .int .i64 c.x2, .int .i64 c.x3, .int .i64 c.x4, v]

set_option maxRecDepth 100000 in
set_option maxHeartbeats 400000 in
theorem inboxNew_any (most : Int) (c : Ck) (w : World) :
    Calls Try.prog 28 #[.int .i64 most, .agg #[.int .i64 c.x0, .int .i64 c.x1, .int .i64 c.x2, .int .i64 c.x3, .int .i64 c.x4]] w fun e w' => ∃ b, e = .returned (.pointer (some ⟨b, 0, none⟩)) ∧ w.heap.size ≤ b ∧ blk w' b (inb most c (.slice none 0 0)) 86 ∧ Below w.heap.size w w' := by
  go_enter Try.func28, Try.ntmps28
  go_wp2
  go_ret
  exact ⟨_, rfl, by simp, blk_at (by simp) (inb most c (.slice none 0 0)) _, ((Below.refl _ _).alloc (Nat.le_refl _) _).alloc (by simp) _⟩
set_option maxRecDepth 100000 in
set_option maxHeartbeats 400000 in
theorem inboxClock_any (b : Nat) (most : Int) (c : Ck) (v : Value) (w : World) (h : blk w b (inb most c v) 86) :
    Calls Try.prog 32 #[.pointer (some ⟨b, 0, none⟩)] w fun e w' => e = .returned (.agg #[.int .i64 c.x0, .int .i64 c.x1, .int .i64 c.x2, .int .i64 c.x3, .int .i64 c.x4]) ∧ Below w.heap.size w w' := by
  have lt := h.lt
  have hc := h.cell
  unfold inb at hc
  go_enter Try.func32, Try.ntmps32
  go_wp2
  have k1 := (blk_new w [Value.int .i64 c.x0, Value.int .i64 c.x1, Value.int .i64 c.x2, Value.int .i64 c.x3, Value.int .i64 c.x4] 23).cell
  refine bodyPost_ret (v := .agg #[.int .i64 c.x0, .int .i64 c.x1, .int .i64 c.x2, .int .i64 c.x3, .int .i64 c.x4]) (by simp [results, Try.results32, go_sem, k1]) rfl ⟨rfl, (Below.refl _ _).alloc (Nat.le_refl _) _⟩
set_option maxRecDepth 100000 in
set_option maxHeartbeats 400000 in
theorem inboxLose_any (b : Nat) (most : Int) (c : Ck) (v : Value) (w : World) (h : blk w b (inb most c v) 86) :
    Calls Try.prog 34 #[.pointer (some ⟨b, 0, none⟩)] w fun e w' => (∃ r, e = .returned r) ∧ blk w' b (inb most c (.slice none 0 0)) 86 ∧ w.grownBy w' (some b) := by
  have lt := h.lt
  have hc := h.cell
  have hf := h.free
  unfold inb at hc
  go_enter Try.func34, Try.ntmps34
  go_wp2
  go_end0
  exact ⟨⟨_, rfl⟩, h.set 6 _, grownBy_setCell _ _ _ _⟩
set_option maxRecDepth 100000 in
set_option maxHeartbeats 400000 in
theorem grow_any (n : Nat) (w : World) (hn : n ≤ 100000) :
    Calls Try.prog 72 #[.slice none 0 0, .int .i64 n] w fun e w' => ∃ v, e = .returned v ∧ evK.own 31 w' w.heap.size v [] ∧ Below w.heap.size w w' := by
  by_cases h0 : n = 0
  · subst h0
    go_enter Try.func72, Try.ntmps72
    go_wp2
    go_ret
    exact ⟨_, rfl, Kn.own_nil, Below.refl _ _⟩
  · have hpos : (n : Int) > 0 := by omega
    obtain ⟨i, hi1, hi2, hi3, hi4⟩ := info_parts infoEv
    have hold : (Builtin.firstCells i.size 0 (.slice none 0 0)).run Try.prog w.drew = .ok ([] : List Value).toArray w.drew := by simp [Builtin.firstCells]
    have hrun : ∀ ty, (Builtin.append_ #[24, 3] ty #[.slice none 0 0, .int .i64 n]).run Try.prog w = _ := fun ty =>
      Lib.run_append_grow_zeros w 24 3 ty 31 i _ .i64 .i64 Try.underlying24 Try.underlying3 hi1 hi2 none 0 0 [] hold n (by omega) (by rw [hi3]; decide) (by omega) (by omega) (by rw [hi4]; omega) (growslice_fits (by omega) (by rw [hi4]; omega))
    go_enter Try.func72, Try.ntmps72
    go_wp2_with (at_builtin; refine Lib.wpList_append_run _ rfl _ _ _ _ rfl _ _ rfl rfl _ _ (hrun _) ?_)
    go_ret
    refine ⟨_, rfl, ⟨by simp, .inr ⟨w.heap.size, grownCap w n 0 31, _, rfl, Nat.le_refl _, heap_alloc_new w _, Nat.zero_le _, grownCap_le_maxLen _ _ _ _ (by unfold maxLen; omega), ?_, by simp⟩⟩, ((Below.refl _ _).alloc (Nat.le_refl _) _).drew⟩
    rw [Array.size_append, size_zeroCells, size_zeroCells]
    have := grownCap_ge w n 0 31
    show n * 12 + (grownCap w n 0 31 - n) * 12 = grownCap w n 0 31 * 12
    omega
set_option maxRecDepth 100000 in
set_option maxHeartbeats 400000 in
theorem clone_any (A : Option Addr) (ca : Nat) (l : List Ev) (w : World) (hl : evK.row w A l) (hlen : l.length ≤ 100000) :
    Calls Try.prog 55 #[.slice A l.length ca] w fun e w' => ∃ v, e = .returned v ∧ evK.own 31 w' w.heap.size v l ∧ Below w.heap.size w w' := by
  cases A with
  | none =>
    obtain rfl : l = [] := by
      rcases hl with h0 | ⟨_, _, hA, _⟩
      · exact h0
      · cases hA
    have he := fun (a : Option Addr) (n c : Nat) (w : World) => Lib.run_eql_slice_nil (P := Try.prog) w 24 31 a n c 0 0 Try.underlying24
    go_enter Try.func55, Try.ntmps55
    go_wp2
    go_ret
    exact ⟨_, rfl, Kn.own_nil, Below.refl _ _⟩
  | some ad =>
    have ho0 : evK.own 31 (w.alloc (Obj.cells #[] 31)) w.heap.size (.slice (some ⟨w.heap.size, 0, none⟩) 0 0) [] := World.ownsRow_lit w #[] 0 (Nat.le_refl _) (by decide) rfl
    have hsz : w.heap.size ≤ (w.alloc (Obj.cells #[] 31)).heap.size := by simp
    have hBa : Below w.heap.size w (w.alloc (Obj.cells #[] 31)) := (Below.refl _ w).alloc (Nat.le_refl _) _
    have hrX := hl.below hBa (Nat.le_refl _)
    have HL := Lib.hid (show ([] : List Ev).length + l.length ≤ 1000000 by simp; omega)
    have he := fun (a : Option Addr) (n c : Nat) (w : World) => Lib.run_eql_slice_nil (P := Try.prog) w 24 31 a n c 0 0 Try.underlying24
    go_enter Try.func55, Try.ntmps55
    go_wp2_with (first
      | (at_builtin; refine wpL_appr evK _ rfl _ _ _ rfl w.heap.size 31 112 _ Try.underlying24 infoEv rfl _ [] rfl ho0 (some ad) ca l rfl hrX HL.out (by decide) hsz ?_; intro v1 w4 ho1 hg1; have hB4 : Below w.heap.size w w4 := hBa.grown hg1 hsz ho0.base_le))
    go_ret
    exact ⟨_, rfl, ho1, hB4⟩
set_option maxRecDepth 100000 in
set_option maxHeartbeats 400000 in
theorem held_any (b : Nat) (most : Int) (c : Ck) (A : Option Addr) (ca : Nat) (l : List Ev) (w : World) (h : blk w b (inb most c (.slice A l.length ca)) 86) (hl : evK.row w A l) (hlen : l.length ≤ 100000) :
    Calls Try.prog 31 #[.pointer (some ⟨b, 0, none⟩)] w fun e w' => ∃ v, e = .returned v ∧ evK.own 31 w' w.heap.size v l ∧ Below w.heap.size w w' := by
  have lt := h.lt
  have hc := h.cell
  unfold inb at hc
  go_enter Try.func31, Try.ntmps31
  go_wp2_with fail
  refine (clone_any A ca l w hl hlen).mono ?_
  rintro e w1 ⟨v, rfl, ho, hB⟩
  go_wp2
  go_ret
  exact ⟨v, rfl, ho, hB⟩
def pre2 (l1 l2 : List Ev) : Nat → List Ev
  | 0 => []
  | 1 => l1
  | _ => l1 ++ l2
set_option maxRecDepth 100000 in
set_option maxHeartbeats 1000000 in
theorem concat_any (g : Nat) (A1 A2 : Option Addr) (c1 c2 : Nat) (l1 l2 : List Ev) (w : World) (h : blk w g [.slice A1 l1.length c1, .slice A2 l2.length c2] 24) (hl1 : evK.row w A1 l1) (hl2 : evK.row w A2 l2) (h1 : l1.length ≤ 40000) (h2 : l2.length ≤ 40000) :
    Calls Try.prog 66 #[.slice (some ⟨g, 0, none⟩) 2 2] w fun e w' => ∃ v, e = .returned v ∧ evK.own 31 w' w.heap.size v (l1 ++ l2) ∧ Below w.heap.size w w' := by
  have lt := h.lt
  have hc := h.cell
  generalize hn1 : l1.length = n1 at *
  generalize hn2 : l2.length = n2 at *
  have HN1 := Lib.hid hn1; have HN2 := Lib.hid hn2
  clear hn1 hn2
  go_enter Try.func66, Try.ntmps66
  go_wp2
  go_loopg [3, 5, 11] 3 (fun f v3 v5 v11 wr => w = wr ∧ ∃ k : Nat, k ≤ 2 ∧ 3 - k ≤ f ∧ v11 = .int .i64 k ∧ v3 = .int .i64 (match k with | 0 => 0 | 1 => (n1 : Int) | _ => (n1 : Int) + n2))
  case atStart => exact ⟨rfl, 0, by omega, by omega, rfl, rfl⟩
  case round =>
    obtain ⟨rfl, k, hk, hf, rfl, rfl⟩ := hrel
    obtain ⟨f, rfl⟩ : ∃ f, gk = f + 1 := ⟨gk - 1, by omega⟩
    obtain rfl | rfl | rfl : k = 0 ∨ k = 1 ∨ k = 2 := by omega
    · go_wp2
      go_roundg f
      case measure => omega
      case rel => exact ⟨rfl, 1, by omega, by omega, rfl, by simp⟩
    · go_wp2
      go_roundg f
      case measure => omega
      case rel => exact ⟨rfl, 2, by omega, by omega, rfl, rfl⟩
    · go_wp2_with fail
      have hgr := grow_any (n1 + n2) w (by omega)
      rw [Int.natCast_add] at hgr
      refine hgr.mono ?_
      rintro e w1 ⟨v, rfl, ho, hB⟩
      have hc1 := (h.below hB lt).cell
      have lt1 : g < w1.heap.size := Nat.lt_of_lt_of_le lt hB.size
      have hr1 := hl1.below hB (Nat.le_refl _)
      have hr2 := hl2.below hB (Nat.le_refl _)
      clear hgr hf hk
      go_wp2
      go_loopg [6, 8, 27] 3 (fun f v6 v8 v27 wr' => ∃ k : Nat, k ≤ 2 ∧ 3 - k ≤ f ∧ v27 = .int .i64 k ∧ evK.own 31 wr' w.heap.size v6 (pre2 l1 l2 k) ∧ Below w.heap.size w wr')
      case atStart => exact ⟨0, by omega, by omega, rfl, ho, hB⟩
      case round =>
        clear hc1 lt1 hr1 hr2 ho hB
        obtain ⟨k, hk, hf, rfl, ho, hB⟩ := hrel
        obtain ⟨f, rfl⟩ : ∃ f, gk = f + 1 := ⟨gk - 1, by omega⟩
        have hc1 := (h.below hB lt).cell
        have lt1 := Nat.lt_of_lt_of_le lt hB.size
        have hr1 := hl1.below hB (Nat.le_refl _)
        have hr2 := hl2.below hB (Nat.le_refl _)
        obtain rfl | rfl | rfl : k = 0 ∨ k = 1 ∨ k = 2 := by omega
        · have HL := Lib.hid (show ([] : List Ev).length + l1.length ≤ 1000000 by have := HN1.out; simp; omega)
          have HN1' := HN1.out
          subst HN1'
          go_wp2_with (first
            | (at_builtin; refine wpL_appr evK _ rfl _ _ _ rfl w.heap.size 31 112 _ Try.underlying24 infoEv rfl _ [] rfl ho A1 c1 l1 rfl hr1 HL.out (by decide) hB.size ?_; intro v1 w4 ho1 hg1; have hB4 : Below w.heap.size w w4 := hB.grown hg1 hB.size ho.base_le))
          go_roundg f
          case measure => omega
          case rel => exact ⟨1, by omega, by omega, by go_num, ho1, hB4⟩
        · have HL := Lib.hid (show l1.length + l2.length ≤ 1000000 by have := HN1.out; have := HN2.out; omega)
          have HN2' := HN2.out
          subst HN2'
          go_wp2_with (first
            | (at_builtin; refine wpL_appr evK _ rfl _ _ _ rfl w.heap.size 31 112 _ Try.underlying24 infoEv rfl _ l1 rfl ho A2 c2 l2 rfl hr2 HL.out (by decide) hB.size ?_; intro v1 w4 ho1 hg1; have hB4 : Below w.heap.size w w4 := hB.grown hg1 hB.size ho.base_le))
          go_roundg f
          case measure => omega
          case rel => exact ⟨2, by omega, by omega, by go_num, ho1, hB4⟩
        · go_wp2
          go_ret
          exact ⟨_, rfl, ho, hB⟩
set_option maxRecDepth 100000 in
set_option maxHeartbeats 400000 in
theorem with_any (b : Nat) (most : Int) (c : Ck) (A1 A2 : Option Addr) (c1 c2 : Nat) (l1 l2 : List Ev) (w : World) (h : blk w b (inb most c (.slice A1 l1.length c1)) 86) (hl1 : evK.row w A1 l1) (hl2 : evK.row w A2 l2) (h1 : l1.length ≤ 40000) (h2 : l2.length ≤ 40000) :
    Calls Try.prog 54 #[.pointer (some ⟨b, 0, none⟩), .slice A2 l2.length c2] w fun e w' => ∃ v, e = .returned v ∧ evK.own 31 w' w.heap.size v (l1 ++ l2) ∧ Below w.heap.size w w' := by
  have lt := h.lt
  have hc := h.cell
  unfold inb at hc
  go_enter Try.func54, Try.ntmps54
  go_wp2_with fail
  have hBa : Below w.heap.size w (w.alloc (Obj.cells #[.slice A1 l1.length c1, .slice A2 l2.length c2] 24)) := (Below.refl _ w).alloc (Nat.le_refl _) _
  refine (concat_any w.heap.size A1 A2 c1 c2 l1 l2 _ (blk_new w [.slice A1 l1.length c1, .slice A2 l2.length c2] 24) (hl1.below hBa (Nat.le_refl _)) (hl2.below hBa (Nat.le_refl _)) h1 h2).mono ?_
  rintro e w1 ⟨v, rfl, ho, hB⟩
  go_wp2
  go_ret
  exact ⟨v, rfl, ho.mono (by simp), hBa.trans (hB.mono (by simp))⟩
end Go.Proofs.Ytlfhjlkhhaoicaa
