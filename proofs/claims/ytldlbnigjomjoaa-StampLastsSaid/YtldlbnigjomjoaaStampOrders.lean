/- The walk of StampOrders. -/
import Derived.Test.YtldlbnigjomjoaaL04
namespace Go.Proofs.Ytldlbnigjomjoaa
set_option linter.unusedVariables false
set_option linter.unusedSimpArgs false
open Go.RowKit
attribute [local go_sem] q_le0 q_le1 q_le2 q_le3 q_lt1 q_lt2 q_lt3
attribute [local go_sem high] eqSt

theorem one_of {a b : St} : (lessS a b != lessS b a) = !decide (a = b) := by
  cases h1 : lessS a b with
  | true =>
    rw [lessS_asym h1]
    by_cases h : a = b
    · subst h; rw [lessS_irr] at h1; cases h1
    · simp [h]
  | false =>
    rcases lessS_tot h1 with h | h
    · rw [h]
      by_cases e : a = b
      · subst e; rw [lessS_irr] at h; cases h
      · simp [e]
    · subst h; simp [h1]
theorem far_of {a b c : St} (h1 : lessS a b = true) (h2 : lessS b c = true) : lessS a c = true := lessS_trans h1 h2
set_option maxRecDepth 100000 in
set_option maxHeartbeats 8000000 in
theorem stampOrders_any (a b c : St) (w : World) :
    Calls Try.prog 4 #[.agg #[.int .i64 a.h, .int .i64 a.r], .agg #[.int .i64 b.h, .int .i64 b.r], .agg #[.int .i64 c.h, .int .i64 c.r]] w fun e w' => e = .returned (.bool true) ∧ Below w.heap.size w w' := by
  have H1 := Lib.hid (one_of (a := a) (b := b))
  have HF := @far_of a b c
  have HI := Lib.hid (lessS_irr a)
  generalize hd : decide (a = b) = d at *
  generalize hab : lessS a b = x at *
  generalize hba : lessS b a = y at *
  generalize hbc : lessS b c = z at *
  generalize hac : lessS a c = v at *
  have HAB := Lib.hid hab; have HBA := Lib.hid hba; have HBC := Lib.hid hbc; have HAC := Lib.hid hac
  clear hab hba hbc hac
  have HF := Lib.hid HF
  go_enter Try.func4, Try.ntmps4
  go_wp2_with fail
  refine (shown04_any _).mono ?_
  rintro e w1 ⟨rfl, hb1⟩
  have kA := (((blk_new w [Value.int .i64 a.h, .int .i64 a.r] 23).alloc (Obj.cells #[.int .i64 b.h, .int .i64 b.r] 23)).alloc (Obj.cells #[.int .i64 c.h, .int .i64 c.r] 23)).below hb1 (by first | omega | (simp; done) | (simp; omega))
  have kB := ((blk_at (w := w.alloc (Obj.cells #[.int .i64 a.h, .int .i64 a.r] 23)) (b := w.heap.size + 1) (by simp) [Value.int .i64 b.h, .int .i64 b.r] 23).alloc (Obj.cells #[.int .i64 c.h, .int .i64 c.r] 23)).below hb1 (by first | omega | (simp; done) | (simp; omega))
  have kC := (blk_at (w := (w.alloc (Obj.cells #[.int .i64 a.h, .int .i64 a.r] 23)).alloc (Obj.cells #[.int .i64 b.h, .int .i64 b.r] 23)) (b := w.heap.size + 1 + 1) (by simp) [Value.int .i64 c.h, .int .i64 c.r] 23).below hb1 (by first | omega | (simp; done) | (simp; omega))
  have hB := (((((Below.refl w.heap.size w).alloc (Nat.le_refl _) (Obj.cells #[.int .i64 a.h, .int .i64 a.r] 23)).alloc (by simp) (Obj.cells #[.int .i64 b.h, .int .i64 b.r] 23)).alloc (by first | omega | (simp; done) | (simp; omega)) (Obj.cells #[.int .i64 c.h, .int .i64 c.r] 23))).trans (hb1.mono (by first | omega | (simp; done) | (simp; omega)))
  have lA := kA.lt; have lB := kB.lt; have lC := kC.lt
  have cA := kA.cell; have cB := kB.cell; have cC := kC.cell
  clear hb1
  cases d <;> cases x <;> cases y <;> first | (exact absurd H1.out (by decide)) | skip
  all_goals cases z <;> cases v <;> first | (exact absurd (HF.out rfl rfl) (by decide)) | skip
  all_goals go_wp2_with (first | (go_at_call 9; refine (less_any ⟨_, _⟩ ⟨_, _⟩ _).mono ?_; rintro e1 w2 ⟨rfl, hb2⟩; (first | rw [HAB.out] | rw [HBA.out] | rw [HBC.out] | rw [HAC.out] | rw [HI.out]); have kA := kA.below hb2 kA.lt; have kB := kB.below hb2 kB.lt; have kC := kC.below hb2 kC.lt; have hB := hB.trans (hb2.mono hB.size); have lA := kA.lt; have lB := kB.lt; have lC := kC.lt; have cA := kA.cell; have cB := kB.cell; have cC := kC.cell; clear hb2))
  all_goals go_ret
  all_goals exact ⟨rfl, hB⟩
end Go.Proofs.Ytldlbnigjomjoaa
