/- Words for a region that calls Drain on two rows put together, and keeps the clock it answers in a new variable. -/
import Derived.Test.YtlfhjlkhhaoicaaOwnW
namespace Go.Proofs.Ytlfhjlkhhaoicaa
set_option linter.unusedVariables false
set_option linter.unusedSimpArgs false
open Go.RowKit
theorem below_set5c {B g : Nat} {W w : World} {c : Ck} (h : Below B W w) (hg : B ≤ g) : Below B W (((((w.setCell ⟨g, 0, none⟩ (.int .i64 c.x0)).setCell ⟨g, 1, none⟩ (.int .i64 c.x1)).setCell ⟨g, 2, none⟩ (.int .i64 c.x2)).setCell ⟨g, 3, none⟩ (.int .i64 c.x3)).setCell ⟨g, 4, none⟩ (.int .i64 c.x4)) :=
  ((((h.setCell (p := ⟨g, 0, none⟩) hg _).setCell (p := ⟨g, 1, none⟩) hg _).setCell (p := ⟨g, 2, none⟩) hg _).setCell (p := ⟨g, 3, none⟩) hg _).setCell (p := ⟨g, 4, none⟩) hg _
theorem own_set5c {α : Type} {K : Kn α} {e : TypeId} {g base : Nat} {w : World} {v : Value} {l : List α} {c : Ck} (h : K.own e w base v l) (hg : some g ≠ v.ownBlock) : K.own e (((((w.setCell ⟨g, 0, none⟩ (.int .i64 c.x0)).setCell ⟨g, 1, none⟩ (.int .i64 c.x1)).setCell ⟨g, 2, none⟩ (.int .i64 c.x2)).setCell ⟨g, 3, none⟩ (.int .i64 c.x3)).setCell ⟨g, 4, none⟩ (.int .i64 c.x4)) base v l :=
  ((((h.set_ne (a := ⟨g, 0, none⟩) (Ne.symm hg) _).set_ne (a := ⟨g, 1, none⟩) (Ne.symm hg) _).set_ne (a := ⟨g, 2, none⟩) (Ne.symm hg) _).set_ne (a := ⟨g, 3, none⟩) (Ne.symm hg) _).set_ne (a := ⟨g, 4, none⟩) (Ne.symm hg) _
section
variable {W w : World} {g base : Nat} {v1 v2 : Value} {da dl : List Ev} {dn : Ck}
/-- What there is behind such a region. -/
def D2 (W : World) (da dl : List Ev) (dn : Ck) (v1 v2 : Value) (g : Nat) (w : World) : Prop :=
  evK.own 31 w W.heap.size v1 da ∧ evK.own 31 w W.heap.size v2 dl ∧ W.heap.size ≤ g ∧ blk w g [Value.int .i64 dn.x0, Value.int .i64 dn.x1, Value.int .i64 dn.x2, Value.int .i64 dn.x3, Value.int .i64 dn.x4] 23 ∧ Below W.heap.size W w
theorem fin5 (kz : blk w g [Value.int .i64 Ck.zero.x0, Value.int .i64 Ck.zero.x1, Value.int .i64 Ck.zero.x2, Value.int .i64 Ck.zero.x3, Value.int .i64 Ck.zero.x4] 23) (h1 : evK.own 31 w base v1 da) (h2 : evK.own 31 w base v2 dl) (hw : Below W.heap.size W w) (hg : g < base) (hWg : W.heap.size ≤ g) (hWb : W.heap.size ≤ base) :
    D2 W da dl dn v1 v2 g (((((w.setCell ⟨g, 0, none⟩ (.int .i64 dn.x0)).setCell ⟨g, 1, none⟩ (.int .i64 dn.x1)).setCell ⟨g, 2, none⟩ (.int .i64 dn.x2)).setCell ⟨g, 3, none⟩ (.int .i64 dn.x3)).setCell ⟨g, 4, none⟩ (.int .i64 dn.x4)) :=
  ⟨(own_set5c h1 (h1.ne hg)).mono hWb, (own_set5c h2 (h2.ne hg)).mono hWb, hWg, set5 (c' := dn) kz, below_set5c hw hWg⟩
theorem fin4 (h1 : evK.own 31 w base v1 da) (h2 : evK.own 31 w base v2 dl) (hw : Below W.heap.size W w) (hWb : W.heap.size ≤ base) :
    D2 W da dl dn v1 v2 w.heap.size (w.alloc (Obj.cells #[.int .i64 dn.x0, .int .i64 dn.x1, .int .i64 dn.x2, .int .i64 dn.x3, .int .i64 dn.x4] 23)) :=
  ⟨(h1.alloc _).mono hWb, (h2.alloc _).mono hWb, hw.size, blk_new w [Value.int .i64 dn.x0, Value.int .i64 dn.x1, Value.int .i64 dn.x2, Value.int .i64 dn.x3, Value.int .i64 dn.x4] 23, hw.alloc hw.size _⟩
end
theorem row_or {w : World} {A : Option Addr} {l : List Ev} (h : evK.row w A l) (o : Obj) : evK.row (w.alloc o) A l := h.below ((Below.refl _ _).alloc (Nat.le_refl _) _) (Nat.le_refl _)
end Go.Proofs.Ytlfhjlkhhaoicaa
