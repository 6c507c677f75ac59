/- The walks of kithlaw08's small functions: short, and the document's example. -/
import Derived.Test.YtlfhjlkhhaoicaaPastE
import Derived.Test.YtlfhjlkhhaoicaaMade
namespace Go.Proofs.Ytlfhjlkhhaoicaa
set_option linter.unusedVariables false
set_option linter.unusedSimpArgs false
open Go.RowKit
attribute [local go_sem] ck_get ck_get? q_le0 q_le1 q_le2 q_le3 q_le4 q_le5 q_lt1 q_lt2 q_lt3 q_lt4 q_lt5

theorem Kn.own.cap_le {α : Type} {K : Kn α} {e : TypeId} {w : World} {base : Nat} {A : Option Addr} {n cap : Nat} {l : List α} (h : K.own e w base (.slice A n cap) l) : cap ≤ maxLen := by
  rcases h.2 with ⟨h1, _⟩ | ⟨g, c, cur, h1, _, _, _, hc, _⟩
  · simp at h1; omega
  · simp at h1; omega
theorem Past.evOk {l : List Ev} (h : Past l) : ∀ e ∈ l, evOk e := fun e he => ⟨.inl (h.may e he), h.ed e he, by have := (h.may e he).h1; omega, by have := (h.may e he).hm; omega⟩
set_option maxRecDepth 100000 in
set_option maxHeartbeats 400000 in
theorem short08_any (A : Option Addr) (n ca : Nat) (w : World) (hc : n ≤ ca) (hm : ca ≤ maxLen) :
    Calls Try.prog 36 #[.slice A n ca] w fun e w' => e = .returned (.slice A (min n 40) ca) ∧ w = w' := by
  unfold maxLen at hm
  by_cases h : n ≤ 40
  · go_enter Try.func36, Try.ntmps36
    go_wp2
    go_ret
    exact ⟨ret_slice (Nat.min_eq_left h).symm, rfl⟩
  · go_enter Try.func36, Try.ntmps36
    go_wp2
    go_ret
    exact ⟨ret_slice (Nat.min_eq_right (by omega)).symm, rfl⟩
def exE : Ev := ⟨0, 1, Ck.zero, 1, 1, keyCy, 0, ByteArray.empty⟩
theorem exE_past : Past [exE] := by
  have h := (PInv.start.edit (r := 0) (by omega) (e := exE) rfl rfl rfl ⟨by simp, .inl ⟨rfl, by simp⟩⟩ ⟨by decide, by decide, .inr (.inr rfl), fun _ => ⟨rfl, rfl⟩, fun h => absurd h (by decide)⟩ (by simp)).past
  simpa using h
set_option maxRecDepth 100000 in
set_option maxHeartbeats 1000000 in
theorem shown08_any (w : World) :
    Calls Try.prog 35 #[] w fun e w' => e = .returned (.bool true) ∧ Below w.heap.size w w' := by
  have hB0 := (Below.refl w.heap.size w).alloc (Nat.le_refl _) (Obj.cells (#[.int .i64 exE.r, .int .i64 exE.n, .int .i64 exE.c.x0, .int .i64 exE.c.x1, .int .i64 exE.c.x2, .int .i64 exE.c.x3, .int .i64 exE.c.x4, .int .i64 exE.h, .int .i64 exE.k, .string exE.key, .int .i64 exE.lab, .string exE.val]) 31)
  have hr0 : evK.row (w.alloc (Obj.cells (#[.int .i64 exE.r, .int .i64 exE.n, .int .i64 exE.c.x0, .int .i64 exE.c.x1, .int .i64 exE.c.x2, .int .i64 exE.c.x3, .int .i64 exE.c.x4, .int .i64 exE.h, .int .i64 exE.k, .string exE.key, .int .i64 exE.lab, .string exE.val]) 31)) (some ⟨w.heap.size, 0, none⟩) [exE] := Kn.row_of (l := [exE]) (blk_new w (evK.enc exE) 31)
  go_enter Try.func35, Try.ntmps35
  go_wp2_with fail
  refine (right_any (some ⟨w.heap.size, 0, none⟩) 1 [exE] _ hr0 (by simp) exE_past.evOk).mono ?_
  rintro e w1 ⟨rfl, hb1⟩
  have hr1 := hr0.below hb1 (Nat.le_refl _)
  have hB1 := hB0.trans (hb1.mono hB0.size)
  rw [pB_true exE_past.right]
  go_wp2_with fail
  refine (ordered_any (some ⟨w.heap.size, 0, none⟩) 1 [exE] _ hr1 (by simp)).mono ?_
  rintro e w2 ⟨rfl, hb2⟩
  have hB2 := hB1.trans (hb2.mono hB1.size)
  rw [pB_true exE_past.ordered]
  go_wp2_with fail
  refine (right_any none 0 [] _ (.inl rfl) (by simp) (by simp)).mono ?_
  rintro e w3 ⟨rfl, hb3⟩
  have hB3 := hB2.trans (hb3.mono hB2.size)
  rw [pB_true Past.nil.right]
  go_wp2_with fail
  refine (ordered_any none 0 [] _ (.inl rfl) (by simp)).mono ?_
  rintro e w4 ⟨rfl, hb4⟩
  have hB4 := hB3.trans (hb4.mono hB3.size)
  rw [pB_true Past.nil.ordered]
  go_wp2_with fail
  refine (height_any none 0 [] Ck.zero _ (.inl rfl) (by simp) (by simp)).mono ?_
  rintro e w5 ⟨h, rfl, hh, hb5⟩
  have hB5 := hB4.trans (hb5.mono hB4.size)
  obtain rfl : h = 1 := hh.uniq ⟨by simp, .inl ⟨rfl, by simp⟩⟩
  go_wp2
  go_ret
  exact ⟨rfl, hB5⟩
end Go.Proofs.Ytlfhjlkhhaoicaa
