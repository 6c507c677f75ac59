/- Words for the walk of kithlaw13.InboxOwn: what Own does where its answer is known. -/
import Derived.Test.YtlfhjlkhhaoicaaInboxLoses
import Derived.Test.YtlfhjlkhhaoicaaOwnP
import Derived.Test.YtlfhjlkhhaoicaaPiecesW
namespace Go.Proofs.Ytlfhjlkhhaoicaa
set_option linter.unusedVariables false
set_option linter.unusedSimpArgs false
open Go.RowKit
section
variable {w w' : World} {b B0 : Nat} {most : Int} {c c' : Ck} {l l' : List Ev}
theorem own_took (e : Ev) (hI : InbAt w b B0 most c l) (h : drain c [e] = ([e], [], c')) :
    Calls Try.prog 41 #[.pointer (some ⟨b, 0, none⟩), .agg #[.int .i64 e.r, .int .i64 e.n, .int .i64 e.c.x0, .int .i64 e.c.x1, .int .i64 e.c.x2, .int .i64 e.c.x3, .int .i64 e.c.x4, .int .i64 e.h, .int .i64 e.k, .string e.key, .int .i64 e.lab, .string e.val]] w fun x w' => x = .returned (.int .i64 0) ∧ InbAt w' b B0 most c' l ∧ w.grownBy w' (some b) := by
  have := own_st e hI
  rw [h] at this
  refine this.mono fun x w' hx => ?_
  rcases hx with ⟨h1, _⟩ | ⟨_, h2, h3, h4⟩
  · cases h1
  · exact ⟨h2, h3, h4⟩
theorem own_gap (e : Ev) (hI : InbAt w b B0 most c l) (h : drain c [e] = ([], l', c)) :
    Calls Try.prog 41 #[.pointer (some ⟨b, 0, none⟩), .agg #[.int .i64 e.r, .int .i64 e.n, .int .i64 e.c.x0, .int .i64 e.c.x1, .int .i64 e.c.x2, .int .i64 e.c.x3, .int .i64 e.c.x4, .int .i64 e.h, .int .i64 e.k, .string e.key, .int .i64 e.lab, .string e.val]] w fun x w' => x = .returned (.int .i64 20) ∧ InbAt w' b B0 most c l ∧ Below w.heap.size w w' := by
  have := own_st e hI
  rw [h] at this
  refine this.mono fun x w' hx => ?_
  rcases hx with ⟨_, h2, h3, h4⟩ | ⟨h1, _⟩
  · exact ⟨h2, h3, h4⟩
  · exact absurd rfl h1
theorem Kn.row.alloc {α : Type} {K : Kn α} {w : World} {A : Option Addr} {l : List α} (h : K.row w A l) (o : Obj) : K.row (w.alloc o) A l := h.below ((Below.refl _ _).alloc (Nat.le_refl _) _) (Nat.le_refl _)
end
theorem own_lit1 (w : World) (o : Obj) : evK.own 31 ((w.alloc o).alloc (Obj.cells #[] 31)) w.heap.size (.slice (some ⟨w.heap.size + 1, 0, none⟩) 0 0) [] := by
  have := World.ownsRow_lit (base := w.heap.size) (e := 31) (size := 12) (w.alloc o) #[] 0 (by simp) (by decide) rfl
  unfold Kn.own
  simp [evK] at this ⊢
  exact this
theorem below_set12 {B g : Nat} {W w : World} {v0 v1 v2 v3 v4 v5 v6 v7 v8 v9 v10 v11 : Value} (h : Below B W w) (hg : B ≤ g) : Below B W ((((((((((((w.setCell ⟨g, 0, none⟩ v0).setCell ⟨g, 1, none⟩ v1).setCell ⟨g, 2, none⟩ v2).setCell ⟨g, 3, none⟩ v3).setCell ⟨g, 4, none⟩ v4).setCell ⟨g, 5, none⟩ v5).setCell ⟨g, 6, none⟩ v6).setCell ⟨g, 7, none⟩ v7).setCell ⟨g, 8, none⟩ v8).setCell ⟨g, 9, none⟩ v9).setCell ⟨g, 10, none⟩ v10).setCell ⟨g, 11, none⟩ v11) := ((((((((((((h.setCell (p := ⟨g, 0, none⟩) hg v0).setCell (p := ⟨g, 1, none⟩) hg v1).setCell (p := ⟨g, 2, none⟩) hg v2).setCell (p := ⟨g, 3, none⟩) hg v3).setCell (p := ⟨g, 4, none⟩) hg v4).setCell (p := ⟨g, 5, none⟩) hg v5).setCell (p := ⟨g, 6, none⟩) hg v6).setCell (p := ⟨g, 7, none⟩) hg v7).setCell (p := ⟨g, 8, none⟩) hg v8).setCell (p := ⟨g, 9, none⟩) hg v9).setCell (p := ⟨g, 10, none⟩) hg v10).setCell (p := ⟨g, 11, none⟩) hg v11)
theorem blk_set12 {g : Nat} {w : World} {t : TypeId} {u0 u1 u2 u3 u4 u5 u6 u7 u8 u9 u10 u11 : Value} {v0 v1 v2 v3 v4 v5 v6 v7 v8 v9 v10 v11 : Value} (h : blk w g [u0, u1, u2, u3, u4, u5, u6, u7, u8, u9, u10, u11] t) : blk ((((((((((((w.setCell ⟨g, 0, none⟩ v0).setCell ⟨g, 1, none⟩ v1).setCell ⟨g, 2, none⟩ v2).setCell ⟨g, 3, none⟩ v3).setCell ⟨g, 4, none⟩ v4).setCell ⟨g, 5, none⟩ v5).setCell ⟨g, 6, none⟩ v6).setCell ⟨g, 7, none⟩ v7).setCell ⟨g, 8, none⟩ v8).setCell ⟨g, 9, none⟩ v9).setCell ⟨g, 10, none⟩ v10).setCell ⟨g, 11, none⟩ v11) g [v0, v1, v2, v3, v4, v5, v6, v7, v8, v9, v10, v11] t := (blk.set (blk.set (blk.set (blk.set (blk.set (blk.set (blk.set (blk.set (blk.set (blk.set (blk.set (blk.set h 0 v0) 1 v1) 2 v2) 3 v3) 4 v4) 5 v5) 6 v6) 7 v7) 8 v8) 9 v9) 10 v10) 11 v11)
theorem keepZ {w w' : World} {b off k : Nat} {p : List Ev} {z : Ev} (hat : evK.at w b off p) (hb : b < w.heap.size) (hz : p[k]? = some z) (h : Below w.heap.size w w') : (w'.cell? ⟨b, off + k * 12, none⟩ = some (.int .i64 z.r) ∧ w'.cell? ⟨b, off + k * 12 + 1, none⟩ = some (.int .i64 z.n) ∧ w'.cell? ⟨b, off + k * 12 + 2, none⟩ = some (.int .i64 z.c.x0) ∧ w'.cell? ⟨b, off + k * 12 + 3, none⟩ = some (.int .i64 z.c.x1) ∧ w'.cell? ⟨b, off + k * 12 + 4, none⟩ = some (.int .i64 z.c.x2) ∧ w'.cell? ⟨b, off + k * 12 + 5, none⟩ = some (.int .i64 z.c.x3) ∧ w'.cell? ⟨b, off + k * 12 + 6, none⟩ = some (.int .i64 z.c.x4) ∧ w'.cell? ⟨b, off + k * 12 + 7, none⟩ = some (.int .i64 z.h) ∧ w'.cell? ⟨b, off + k * 12 + 8, none⟩ = some (.int .i64 z.k) ∧ w'.cell? ⟨b, off + k * 12 + 9, none⟩ = some (.string z.key) ∧ w'.cell? ⟨b, off + k * 12 + 10, none⟩ = some (.int .i64 z.lab) ∧ w'.cell? ⟨b, off + k * 12 + 11, none⟩ = some (.string z.val)) ∧ Below w.heap.size w w' := ⟨evAt_get (hat.below h hb) hz, h⟩
end Go.Proofs.Ytlfhjlkhhaoicaa
