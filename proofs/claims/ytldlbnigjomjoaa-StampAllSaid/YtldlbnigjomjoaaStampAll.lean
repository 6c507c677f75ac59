/- The walk of StampAll. -/
import Derived.Test.YtldlbnigjomjoaaL04
namespace Go.Proofs.Ytldlbnigjomjoaa
set_option linter.unusedVariables false
set_option linter.unusedSimpArgs false
open Go.RowKit
attribute [local go_sem] q_le0 q_le1 q_le2 q_le3 q_lt1 q_lt2 q_lt3
attribute [local go_sem high] eqSt

theorem take30 (l : List St) : min l.length 30 = (l.take 30).length := by rw [List.length_take]; omega
set_option maxRecDepth 100000 in
set_option maxHeartbeats 1000000 in
theorem stampAll_any (a b : St) (A : Option Addr) (ca : Nat) (l : List St) (w : World) (hl : stK.row w A l) (hc : l.length ≤ ca) (hm : ca ≤ maxLen) :
    Calls Try.prog 3 #[.agg #[.int .i64 a.h, .int .i64 a.r], .agg #[.int .i64 b.h, .int .i64 b.r], .slice A l.length ca] w fun e w' => e = .returned (.bool true) ∧ Below w.heap.size w w' := by
  have hL := hl.take 30
  have hT := Lib.hid (take30 l)
  have hLm : (l.take 30).length ≤ maxLen := by rw [List.length_take]; unfold maxLen at *; omega
  generalize l.take 30 = L at *
  go_enter Try.func3, Try.ntmps3
  go_wp2_with fail
  refine (shown04_any _).mono ?_
  rintro e w1 ⟨rfl, hb1⟩
  have kA := ((blk_new w [Value.int .i64 a.h, .int .i64 a.r] 23).alloc (Obj.cells #[.int .i64 b.h, .int .i64 b.r] 23)).below hb1 (by first | omega | (simp; done) | (simp; omega))
  have kB := (blk_at (w := w.alloc (Obj.cells #[.int .i64 a.h, .int .i64 a.r] 23)) (b := w.heap.size + 1) (by simp) [Value.int .i64 b.h, .int .i64 b.r] 23).below hb1 (by first | omega | (simp; done) | (simp; omega))
  have hB := (((Below.refl w.heap.size w).alloc (Nat.le_refl _) (Obj.cells #[.int .i64 a.h, .int .i64 a.r] 23)).alloc (by simp) (Obj.cells #[.int .i64 b.h, .int .i64 b.r] 23)).trans (hb1.mono (by first | omega | (simp; done) | (simp; omega)))
  have hr := hL.below hB (Nat.le_refl _)
  have lA := kA.lt; have lB := kB.lt
  have cA := kA.cell; have cB := kB.cell
  clear hb1 hL hl
  generalize hv : lessS a b = v
  have HV := Lib.hid hv
  clear hv
  go_wp2
  go_region_held3 (fun w' => (∀ o, w'.cell? ⟨w.heap.size, o, none⟩ = [Value.int .i64 a.h, .int .i64 a.r][o]?) ∧ (∀ o, w'.cell? ⟨w.heap.size + 1, o, none⟩ = [Value.int .i64 b.h, .int .i64 b.r][o]?) ∧ Below w1.heap.size w1 w') (first | exact ⟨cA, cB, (Below.refl _ _).drew⟩ | assumption | (go_split_ands; exact ⟨by assumption, by assumption, by assumption⟩) | (go_split_ands; have hx : Below w1.heap.size w1 _ := Below.trans (by assumption) (hb2.mono (by first | exact (Below.size (by assumption)) | (simp; done))); exact ⟨(kA.below hx lA).cell, (kB.below hx lB).cell, hx⟩)) (first | (go_at_call 9; refine (less_any a b _).mono ?_; rintro e1 w2 ⟨rfl, hb2⟩) | (go_at_call 10; refine (refLess_any a b _).mono ?_; rintro e1 w2 ⟨rfl, hb2⟩) | (go_at_call 12; refine (few04_any _ _ _ _ hc hm).mono ?_; rintro e1 w2 ⟨rfl, rfl⟩; rw [hT.out]) | (go_at_call 11; go_split_ands; refine (last_any A ca L _ (hr.below (by assumption) (Nat.le_refl _)) hLm).mono ?_; rintro e1 w2 ⟨rfl, hb2⟩) | (go_at_call 13; go_split_ands; refine (refLast_any A ca L _ (hr.below (by assumption) (Nat.le_refl _)) hLm).mono ?_; rintro e1 w2 ⟨rfl, hb2⟩))
  go_wp2
  go_ret
  exact ⟨rfl, by go_split_ands; exact hB.trans (Below.mono (by assumption) hB.size)⟩
end Go.Proofs.Ytldlbnigjomjoaa
