/- The walks of kithlaw12's small functions: few, short's kin, and the document's example. -/
import Derived.Test.YtlfhjlkhhaoicaaDrain
namespace Go.Proofs.Ytlfhjlkhhaoicaa
set_option linter.unusedVariables false
set_option linter.unusedSimpArgs false
open Go.RowKit
attribute [local go_sem] ck_get ck_get?
attribute [local go_sem high] eqCk eqMk eqEv

set_option maxRecDepth 100000 in
set_option maxHeartbeats 400000 in
theorem few12_any (A : Option Addr) (n ca : Nat) (w : World) (hc : n ≤ ca) (hm : ca ≤ maxLen) :
    Calls Try.prog 18 #[.slice A n ca] w fun e w' => e = .returned (.slice A (min n 40) ca) ∧ w = w' := by
  unfold maxLen at hm
  by_cases h : n ≤ 40
  · go_enter Try.func18, Try.ntmps18
    go_wp2
    go_ret
    exact ⟨ret_slice (Nat.min_eq_left h).symm, rfl⟩
  · go_enter Try.func18, Try.ntmps18
    go_wp2
    go_ret
    exact ⟨ret_slice (Nat.min_eq_right (by omega)).symm, rfl⟩

def cy : ByteArray := ⟨#[99, 121]⟩
def ex1 : Ev := ⟨0, 1, Ck.zero, 1, 1, cy, 0, ByteArray.empty⟩
def ex2 : Ev := ⟨1, 2, ⟨0, 1, 0, 0, 0⟩, 2, 1, cy, 0, ByteArray.empty⟩
theorem drain_ex : drain Ck.zero [ex2, ex1, ex1] = ([ex1], [ex2], ⟨1, 0, 0, 0, 0⟩) := by
  rfl
set_option maxRecDepth 100000 in
set_option maxHeartbeats 1000000 in
theorem shown12_any (w : World) :
    Calls Try.prog 17 #[] w fun e w' => e = .returned (.bool true) ∧ Below w.heap.size w w' := by
  go_enter Try.func17, Try.ntmps17
  go_wp2_with fail
  refine (drain_any Ck.zero _ _ [ex2, ex1, ex1] _ ?c1 (by decide)).mono ?_
  case c1 => exact Kn.row_of (blk_at (by simp) ([ex2, ex1, ex1].flatMap evK.enc) 31)
  rintro e w1 ⟨v1, v2, rfl, h1, h2, hb⟩
  rw [drain_ex] at h1 h2 ⊢
  obtain ⟨A1, p1, rfl, hr1, _, hs1⟩ := h1.form
  obtain ⟨A2, p2, rfl, hr2, _, hs2⟩ := h2.form
  obtain ⟨b1, o1, rfl, _, ha1⟩ := hr1.get (k := 0) (x := ex1) rfl
  obtain ⟨b2, o2, rfl, _, ha2⟩ := hr2.get (k := 0) (x := ex2) rfl
  have e1 := evAt_get ha1 (k := 0) (e := ex1) rfl
  have e2 := evAt_get ha2 (k := 0) (e := ex2) rfl
  simp only [Nat.zero_mul, Nat.add_zero] at e1 e2
  obtain ⟨c0, c1, c2, c3, c4, c5, c6, c7, c8, c9, c10, c11⟩ := e1
  obtain ⟨d0, d1, d2, d3, d4, d5, d6, d7, d8, d9, d10, d11⟩ := e2
  have kb1 := (((blk_new w (evK.enc ex1) 31).alloc (Obj.cells (evK.enc ex2).toArray 31)).alloc (Obj.cells ([ex2, ex1, ex1].flatMap evK.enc).toArray 31)).below hb (by simp; omega)
  have kb2 := ((blk_at (w := w.alloc (Obj.cells (evK.enc ex1).toArray 31)) (b := w.heap.size + 1) (by simp) (evK.enc ex2) 31).alloc (Obj.cells ([ex2, ex1, ex1].flatMap evK.enc).toArray 31)).below hb (by simp)
  have k1 : ∀ o, w1.cell? ⟨w.heap.size, o, none⟩ = [.int .i64 ex1.r, .int .i64 ex1.n, .int .i64 ex1.c.x0, .int .i64 ex1.c.x1, .int .i64 ex1.c.x2, .int .i64 ex1.c.x3, .int .i64 ex1.c.x4, .int .i64 ex1.h, .int .i64 ex1.k, .string ex1.key, .int .i64 ex1.lab, .string ex1.val][o]? := kb1.cell
  have k2 : ∀ o, w1.cell? ⟨w.heap.size + 1, o, none⟩ = [.int .i64 ex2.r, .int .i64 ex2.n, .int .i64 ex2.c.x0, .int .i64 ex2.c.x1, .int .i64 ex2.c.x2, .int .i64 ex2.c.x3, .int .i64 ex2.c.x4, .int .i64 ex2.h, .int .i64 ex2.k, .string ex2.key, .int .i64 ex2.lab, .string ex2.val][o]? := kb2.cell
  have hq : ∀ d w, (Op.equalIn (d + 2) 23 (.agg #[.int .i64 1, .int .i64 0, .int .i64 0, .int .i64 0, .int .i64 0]) (.agg #[.int .i64 1, .int .i64 0, .int .i64 0, .int .i64 0, .int .i64 0])).run Try.prog w = .ok true w := fun d w => eqCk d w ⟨1, 0, 0, 0, 0⟩ ⟨1, 0, 0, 0, 0⟩
  have l1 := kb1.lt; have l2 := kb2.lt
  have hbb := (((((Below.refl w.heap.size w).alloc (Nat.le_refl _) (Obj.cells (evK.enc ex1).toArray 31)).alloc (by simp) (Obj.cells (evK.enc ex2).toArray 31)).alloc (by first | omega | (simp; done) | (simp; omega)) (Obj.cells ([ex2, ex1, ex1].flatMap evK.enc).toArray 31))).trans (hb.mono (by first | omega | (simp; done) | (simp; omega)))
  clear hb h1 h2 hr1 hr2 ha1 ha2 kb1 kb2
  go_wp2
  go_quiet (fail)
  go_wp2
  go_ret
  exact ⟨rfl, bdN (hbb.alloc (by first | omega | (simp; done) | (simp; omega)) _) _⟩
end Go.Proofs.Ytlfhjlkhhaoicaa
